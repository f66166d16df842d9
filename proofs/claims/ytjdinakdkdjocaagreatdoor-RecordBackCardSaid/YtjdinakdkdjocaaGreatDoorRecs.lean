/- The records of the law: a raw one if it is not too large, a made one, and one with one thing changed. -/
import Derived.Test.YtjdinakdkdjocaaGreatDoorMade
import Derived.Test.YtjdinakdkdjocaaGreatDoorLight
set_option linter.unusedSimpArgs false
set_option linter.unusedVariables false
set_option maxRecDepth 100000
namespace Go.AdR
open Go Go.RowKit Go.Adm
def dig1 : List UInt8 := 1 :: List.replicate 31 0
/-- a record and where its lists lie -/
structure RecM where
  x : Rec
  sc : Sl
  se : Sl
  sm : Sl
  sp : Sl
def RecM.cells (r : RecM) : List Value := recC r.x r.sc r.se r.sm r.sp
/-- what is known of a record of the law -/
structure RecGood (w : World) (B : Nat) (r : RecM) : Prop where
  inn : RecIn w B r.x r.sc r.se r.sm r.sp
  ok : RecOk r.x
  lo : -9223372036854775808 ≤ r.x.t
  hi : r.x.t ≤ 9223372036854775807
structure RecFine (x : Rec) : Prop where
  ok : RecOk x
  cmd : ∀ s ∈ x.cmd, s.size ≤ 140737488355328
  lo : -9223372036854775808 ≤ x.t
  hi : x.t ≤ 9223372036854775807
def RecsPost (w : World) (e : Ending) (w' : World) : Prop := ∃ (A : Option Addr) (n c : Nat) (rs : List RecM), e = .returned (.slice A n c) ∧ n ≤ 3 ∧ rs.length = n ∧ Els w' w'.heap.size 8 A n (rs.map RecM.cells) ∧ (∀ r ∈ rs, RecGood w' w'.heap.size r) ∧ Below w.heap.size w w'
theorem RecOwn.good {ts tv te : TypeId} {w : World} {base : Nat} {x : Rec} {sc se sm sp : Sl} (h : RecOwn ts tv te w base x sc se sm sp) (ok : RecOk x) (hc : ∀ s ∈ x.cmd, s.size ≤ 140737488355328) (lo : -9223372036854775808 ≤ x.t) (hi : x.t ≤ 9223372036854775807) : RecGood w w.heap.size ⟨x, sc, se, sm, sp⟩ := by
  have l1 : x.cmd.length = sc.n := by have := h.cmd.1; simpa using this
  have l2 : x.env.length = se.n := by have := h.env.1; rw [flat_len (size := 2) (fun e he => by obtain ⟨y, _, rfl⟩ := List.mem_map.1 he; rfl)] at this; simp at this; omega
  have l3 : x.mat.length = sm.n := by have := h.mat.1; rw [flat_len (size := 33) (ents_len ok.mat)] at this; simp at this; omega
  have l4 : x.prod.length = sp.n := by have := h.prod.1; rw [flat_len (size := 33) (ents_len ok.prod)] at this; simp at this; omega
  exact ⟨⟨⟨h.cmd.rd, hc⟩, Els.of h.env (fun e he => by obtain ⟨y, _, rfl⟩ := List.mem_map.1 he; rfl) (by rw [List.length_map]; exact l2), Els.of h.mat (ents_len ok.mat) (by rw [List.length_map]; exact l3), Els.of h.prod (ents_len ok.prod) (by rw [List.length_map]; exact l4)⟩, ok, lo, hi⟩
theorem fill_tape (v : Value) (hv : v.oneCell' = true) : Instr.fill (#[(0, 1), (1, 1)][·]?) #[Value.slice none 0 0, Value.int .i64 0] [(0, v)] = some #[v, .int .i64 0] := by
  have h1 : v.cells = [v].toArray := by cases v <;> first | rfl | cases hv
  refine (fill_step (off := 0) (size := 1) (es := [v]) (pre := []) (old := [.slice none 0 0]) (post := [.int .i64 0]) rfl rfl rfl rfl h1 rfl).trans ?_
  rfl
theorem fill_var1 (a : ByteArray) : Instr.fill (#[(0, 1), (1, 1)][·]?) varZ.toArray [(0, .string a)] = some (varC ⟨a, ByteArray.empty⟩).toArray := by
  refine (fill_step (off := 0) (size := 1) (es := [.string a]) (pre := []) (old := [.string ByteArray.empty]) (post := [.string ByteArray.empty]) rfl rfl rfl rfl rfl rfl).trans ?_
  rfl
theorem wl_val {P : Program} {ops : Array Oper} {rest : List Oper} {o : Oper} {a : Act} {w : World} {Q : Exit → Act → World → Prop} (hg : o.guard = none) (t : TypeId) (parts : List (Nat × Operand)) (ho : o.op = .build t parts.toArray) (v : Value)
    (hrun : (Instr.build t ((parts.map fun x => (x.1, a.eval x.2)).toArray)).run P w = .ok v w)
    (h : wpList P ops Q rest (a.put o.dst v) w) : wpList P ops Q (o :: rest) a w :=
  wpList_plain hg fun _ hK => by
    have e : (parts.toArray.map fun (i, x) => (i, a.eval x)) = (parts.map fun x => (x.1, a.eval x.2)).toArray := by simp
    unfold Oper.wp execOp
    simp only [ho, Sem.run_bind, e, hrun, Result.andThen_ok]
    exact hK _ _ h
theorem entC_one' (e : E) : ∀ u ∈ entC e, u.oneCell' = true := by
  intro u hu
  rcases List.mem_cons.1 hu with rfl | h
  · rfl
  · obtain ⟨b, _, rfl⟩ := List.mem_map.1 h
    rfl
theorem ents_one (l : List E) : ∀ u ∈ (l.map entC).flatten, u.oneCell' = true := by
  intro u hu
  obtain ⟨cs, hcs, hu⟩ := List.mem_flatten.1 hu
  obtain ⟨e, _, rfl⟩ := List.mem_map.1 hcs
  exact entC_one' e u hu
theorem flatE {w : World} {base n c : Nat} {e : TypeId} {A : Option Addr} {l : List E} {x : E} (h : Go.Adm.Own w base e 33 A n c ((l.map entC).flatten ++ entC x)) : Go.Adm.Own w base e 33 A n c ((l ++ [x]).map entC).flatten := by
  rw [List.map_append, List.flatten_append]
  show Go.Adm.Own w base e 33 A n c ((l.map entC).flatten ++ (entC x ++ []))
  rw [List.append_nil]
  exact h
theorem own_self {w : World} {base size n c g : Nat} {e : TypeId} {xs : List Value} (h : Go.Adm.Own w base e size (some ⟨g, 0, none⟩) n c xs) : Go.Adm.Own w g e size (some ⟨g, 0, none⟩) n c xs := by
  refine ⟨h.1, ?_⟩
  rcases h.2 with h2 | ⟨g', cap, cur, hv, hb, r⟩
  · exact .inl h2
  · have h3 := hv
    injection hv with hv1 hv2
    injection hv1 with hv1
    injection hv1 with hv1
    exact .inr ⟨g', cap, cur, h3, Nat.le_of_eq hv1, r⟩
def oddL : List ByteArray := [⟨#[97, 47, 47, 98]⟩, ⟨#[97, 47, 98, 47, 99, 47, 100, 47, 101]⟩, ⟨#[47, 97]⟩, ⟨#[65]⟩]
theorem odd_small {s : ByteArray} (h : s ∈ oddL) : s.size ≤ 100 := by
  have h1 : (oddL.all fun p => decide (p.size ≤ 100)) = true := by decide +kernel
  have h2 := List.all_eq_true.1 h1 s h
  simpa using h2
end Go.AdR
namespace Go.Proofs.YtjdinakdkdjocaaGreatDoor
open Go Go.RowKit Go.Adm Go.AdR
theorem el_recd : ElemOf Tryz.prog 42 31 (.agg recZ.toArray) 8 152 := ElemOf.mk' Tryz.underlying42 (by kernel_rfl) rfl (by decide) (by decide)
theorem zero_tape (w : World) : (zeroValue 35).run Tryz.prog w = .ok (.agg #[Value.slice none 0 0, Value.int .i64 0]) w := by kernel_rfl
theorem run_dig1 (w : World) : (Instr.build 68 #[(0, .int .u8 1)]).run Tryz.prog w = .ok (.agg (dig1.map bv).toArray) w := by kernel_rfl
set_option maxHeartbeats 25600000 in
theorem records_any (w : World) (B : Nat) (x0 : Rec) (sc0 se0 sm0 sp0 : Sl) (h : RecIn w B x0 sc0 se0 sm0 sp0) (hr : RecRaw x0) (A : Option Addr) (nl cl : Nat) (L : List Int) (hL : Rd w B 1 A nl (L.map iv)) (hB : B ≤ w.heap.size) :
    Calls Tryz.prog 11 #[.agg (recC x0 sc0 se0 sm0 sp0).toArray, .slice A nl cl] w (RecsPost w) := by
  have hR : All w [.low (Go.AdR.Low.recd B x0 sc0 se0 sm0 sp0), .kept w w.heap.size] := ⟨⟨h, hB⟩, ⟨Below.refl _ _, Nat.le_refl _⟩, trivial⟩
  have HL : Hid (∀ W, Below w.heap.size w W → Rd W B 1 A nl (L.map iv)) := Lib.hid (fun W hb => hL.below hb hB)
  have HR := Lib.hid hr
  have HBB := Lib.hid hB
  clear h hr hL
  have hzr := zero_rec
  go_enter Tryz.func11, Tryz.ntmps11
  go_upto_region 1 with (fail)
  refine wp_gen (hR.new (l := recC x0 sc0 se0 sm0 sp0) _ 31 rfl rfl) ?_
  intro W hW
  clear hR
  have hgw := Cells.lt (hW.at_ 0 rfl)
  go_upto_region 2 with (refine wl_build rfl 35 [(0, .tmp 9)] rfl _ _ #[(0, 1), (1, 1)] #[.slice A nl cl, .int .i64 0] zero_tape Tryz.underlying35 (fun w => by kernel_rfl) ?_ ?_; exact fill_tape _ rfl)
  refine wp_gen (hW.new (l := [.slice A nl cl, .int .i64 ((0 : Nat) : Int)]) #[.slice A nl cl, .int .i64 0] 35 rfl rfl) ?_
  obtain ⟨gt, hgt⟩ : ∃ g, g = W.heap.size := ⟨_, rfl⟩
  rw [← hgt]
  intro W1 hW1'
  have hgt0 : w.heap.size < gt := by omega
  clear hW hgw hgt
  have hW1 : All W1 [tapeC gt A nl cl (0), .cells w.heap.size 31 (recC x0 sc0 se0 sm0 sp0), .low (Go.AdR.Low.recd B x0 sc0 se0 sm0 sp0), .kept w w.heap.size] := hW1'
  clear hW1'
  have hmade := made_any W1 gt B A nl cl 0 L (hW1.at_ 0 rfl) (HL.out _ (hW1.at_ 3 rfl : _ ∧ _).1) (by omega) (by decide)
  go_upto_region 3 with (first
    | (go_at_call 6; refine hmade.mono ?_; clear hmade; rintro e w2 ⟨x1, sc1, se1, sm1, sp1, m1, rfl, hown1, hok1, hm1, hc2, hg2⟩; have hW2 : All w2 [.own (gt + 1) 9 1 sc1.A sc1.n sc1.c (x1.cmd.map sv), .own (gt + 1) 49 2 se1.A se1.n se1.c (x1.env.map varC).flatten, .own (gt + 1) 70 33 sm1.A sm1.n sm1.c (x1.mat.map entC).flatten, .own (gt + 1) 70 33 sp1.A sp1.n sp1.c (x1.prod.map entC).flatten, tapeC gt A nl cl (0 + m1), .cells w.heap.size 31 (recC x0 sc0 se0 sm0 sp0), .low (Go.AdR.Low.recd B x0 sc0 se0 sm0 sp0), .kept w w.heap.size] := ⟨hown1.cmd, hown1.env, hown1.mat, hown1.prod, All.upd hg2 0 (tapeC gt A nl cl (0 + m1)) hW1 hc2 ⟨fun e => by injection e with e; omega, fun g e => (by injection e with e; subst e; show B ≤ _; omega), fun g e => by injection e with e; omega, trivial⟩⟩; have HOK1 := Lib.hid hok1; clear hW1 hown1 hok1 hc2 hg2; have hl2 := Cells.lt (hW2.at_ 4 rfl : Cells w2 gt _ _))
    | (refine wl_store_at (hW2.new (l := recZ) recZ.toArray 31 rfl rfl) 0 rfl 31 (.tmp 6) (.tmp 13) rfl w2.heap.size _ recZ (recC x1 sc1 se1 sm1 sp1) rfl rfl rfl rfl (by kernel_rfl) (recC_one _ _ _ _ _) ⟨fun g e => .inr (by injection e with e; subst e; exact Own.ne (hW2.at_ 0 rfl)), fun g e => .inr (by injection e with e; subst e; exact Own.ne (hW2.at_ 1 rfl)), fun g e => .inr (by injection e with e; subst e; exact Own.ne (hW2.at_ 2 rfl)), fun g e => .inr (by injection e with e; subst e; exact Own.ne (hW2.at_ 3 rfl)), fun e => by injection e with e; omega, fun e => by injection e with e; omega, fun g e => (by injection e with e; subst e; show B ≤ _; omega), fun g e => by injection e with e; omega, trivial⟩ ?_; intro w3 hW3 hs3))
  simp only [List.set_cons_zero] at hW3
  obtain ⟨g6, hg6⟩ : ∃ g, g = w2.heap.size := ⟨_, rfl⟩
  rw [← hg6] at hW3 hl2 ⊢
  clear hW2 hs3 hg6
  have hmade := made_any w3 gt B A nl cl (0 + m1) L (hW3.at_ 5 rfl) (HL.out _ (hW3.at_ 8 rfl : _ ∧ _).1) (by omega) (by omega)
  go_upto_region 4 with (first
    | (go_at_call 6; refine hmade.mono ?_; clear hmade; rintro e w4 ⟨x2, sc2, se2, sm2, sp2, m2, rfl, hown2, hok2, hm2, hc4, hg4⟩; have hW4 : All w4 [.own (gt + 1) 9 1 sc2.A sc2.n sc2.c (x2.cmd.map sv), .own (gt + 1) 49 2 se2.A se2.n se2.c (x2.env.map varC).flatten, .own (gt + 1) 70 33 sm2.A sm2.n sm2.c (x2.mat.map entC).flatten, .own (gt + 1) 70 33 sp2.A sp2.n sp2.c (x2.prod.map entC).flatten, .cells g6 31 (recC x1 sc1 se1 sm1 sp1), .own (gt + 1) 9 1 sc1.A sc1.n sc1.c (x1.cmd.map sv), .own (gt + 1) 49 2 se1.A se1.n se1.c (x1.env.map varC).flatten, .own (gt + 1) 70 33 sm1.A sm1.n sm1.c (x1.mat.map entC).flatten, .own (gt + 1) 70 33 sp1.A sp1.n sp1.c (x1.prod.map entC).flatten, tapeC gt A nl cl (0 + m1 + m2), .cells w.heap.size 31 (recC x0 sc0 se0 sm0 sp0), .low (Go.AdR.Low.recd B x0 sc0 se0 sm0 sp0), .kept w w.heap.size] := ⟨hown2.cmd, hown2.env, hown2.mat, hown2.prod, All.upd hg4 5 (tapeC gt A nl cl (0 + m1 + m2)) hW3 hc4 ⟨fun e => by injection e with e; omega, fun g e => .inl (by injection e with e; omega), fun g e => .inl (by injection e with e; omega), fun g e => .inl (by injection e with e; omega), fun g e => .inl (by injection e with e; omega), fun e => by injection e with e; omega, fun g e => (by injection e with e; subst e; show B ≤ _; omega), fun g e => by injection e with e; omega, trivial⟩⟩; have HOK2 := Lib.hid hok2; clear hW3 hown2 hok2 hc4 hg4; have hl4 := Cells.lt (hW4.at_ 4 rfl))
    | (refine wl_store_at (hW4.new (l := recZ) recZ.toArray 31 rfl rfl) 0 rfl 31 (.tmp 7) (.tmp 15) rfl w4.heap.size _ recZ (recC x2 sc2 se2 sm2 sp2) rfl rfl rfl rfl (by kernel_rfl) (recC_one _ _ _ _ _) ⟨fun g e => .inr (by injection e with e; subst e; exact Own.ne (hW4.at_ 0 rfl)), fun g e => .inr (by injection e with e; subst e; exact Own.ne (hW4.at_ 1 rfl)), fun g e => .inr (by injection e with e; subst e; exact Own.ne (hW4.at_ 2 rfl)), fun g e => .inr (by injection e with e; subst e; exact Own.ne (hW4.at_ 3 rfl)), fun e => by injection e with e; omega, fun g e => .inr (by injection e with e; subst e; exact Own.ne (hW4.at_ 5 rfl)), fun g e => .inr (by injection e with e; subst e; exact Own.ne (hW4.at_ 6 rfl)), fun g e => .inr (by injection e with e; subst e; exact Own.ne (hW4.at_ 7 rfl)), fun g e => .inr (by injection e with e; subst e; exact Own.ne (hW4.at_ 8 rfl)), fun e => by injection e with e; omega, fun e => by injection e with e; omega, fun g e => (by injection e with e; subst e; show B ≤ _; omega), fun g e => by injection e with e; omega, trivial⟩ ?_; intro w5 hW5 hs5))
  simp only [List.set_cons_zero] at hW5
  obtain ⟨g7, hg7⟩ : ∃ g, g = w4.heap.size := ⟨_, rfl⟩
  rw [← hg7] at hW5 hl4 ⊢
  clear hW4 hs5 hg7
  go_upto_region 5 with (go_at_call 19; refine (Next_any w5 gt B A nl cl (0 + m1 + m2) 8 L (hW5.at_ 10 rfl) (HL.out _ (hW5.at_ 13 rfl : _ ∧ _).1) (by omega) (by decide) (by decide) (by omega)).mono ?_; rintro e w6 ⟨k, hk, rfl, hc6, hg6⟩)
  have hW6 : All w6 [.cells g7 31 (recC x2 sc2 se2 sm2 sp2), .own (gt + 1) 9 1 sc2.A sc2.n sc2.c (x2.cmd.map sv), .own (gt + 1) 49 2 se2.A se2.n se2.c (x2.env.map varC).flatten, .own (gt + 1) 70 33 sm2.A sm2.n sm2.c (x2.mat.map entC).flatten, .own (gt + 1) 70 33 sp2.A sp2.n sp2.c (x2.prod.map entC).flatten, .cells g6 31 (recC x1 sc1 se1 sm1 sp1), .own (gt + 1) 9 1 sc1.A sc1.n sc1.c (x1.cmd.map sv), .own (gt + 1) 49 2 se1.A se1.n se1.c (x1.env.map varC).flatten, .own (gt + 1) 70 33 sm1.A sm1.n sm1.c (x1.mat.map entC).flatten, .own (gt + 1) 70 33 sp1.A sp1.n sp1.c (x1.prod.map entC).flatten, tapeC gt A nl cl (0 + m1 + m2 + 1), .cells w.heap.size 31 (recC x0 sc0 se0 sm0 sp0), .low (Go.AdR.Low.recd B x0 sc0 se0 sm0 sp0), .kept w w.heap.size] := All.upd hg6 10 (tapeC gt A nl cl (0 + m1 + m2 + 1)) hW5 hc6 ⟨fun e => by injection e with e; omega, fun g e => .inl (by injection e with e; omega), fun g e => .inl (by injection e with e; omega), fun g e => .inl (by injection e with e; omega), fun g e => .inl (by injection e with e; omega), fun e => by injection e with e; omega, fun g e => .inl (by injection e with e; omega), fun g e => .inl (by injection e with e; omega), fun g e => .inl (by injection e with e; omega), fun g e => .inl (by injection e with e; omega), fun e => by injection e with e; omega, fun g e => (by injection e with e; subst e; show B ≤ _; omega), fun g e => by injection e with e; omega, trivial⟩
  clear hW5 hc6 hg6
  obtain ⟨at3, hat3⟩ : ∃ k, k = 0 + m1 + m2 + 1 := ⟨_, rfl⟩
  rw [← hat3] at hW6
  have hat3' : at3 ≤ 3000 := by omega
  clear hat3 hm1 hm2
  have hB0 := HBB.out
  rcases (by omega : k = 0 ∨ k = 1 ∨ k = 2 ∨ k = 3 ∨ k = 4 ∨ k = 5 ∨ k = 6 ∨ k = 7) with rfl | rfl | rfl | rfl | rfl | rfl | rfl | rfl
  · have c0 := cell_of (hW6.at_ 0 rfl) (i := 0) rfl
    have f0 := Cells.frozen (hW6.at_ 0 rfl) 0
    go_upto_region 19 with (fail)
    obtain ⟨y, hy⟩ : ∃ y : Rec, y = ⟨(⟨#[82, 117, 110]⟩ : ByteArray), x2.scope, x2.step, x2.t, x2.cmd, x2.env, x2.mat, x2.prod⟩ := ⟨_, rfl⟩
    obtain ⟨scy, hscy⟩ : ∃ s : Sl, s = sc2 := ⟨_, rfl⟩
    obtain ⟨sey, hsey⟩ : ∃ s : Sl, s = se2 := ⟨_, rfl⟩
    obtain ⟨smy, hsmy⟩ : ∃ s : Sl, s = sm2 := ⟨_, rfl⟩
    obtain ⟨spy, hspy⟩ : ∃ s : Sl, s = sp2 := ⟨_, rfl⟩
    obtain ⟨at4, hat4⟩ : ∃ k, k = at3 := ⟨_, rfl⟩
    have HOKY : Hid (RecFine y) := Lib.hid (by
      rw [hy]
      exact ⟨⟨(by decide : ((⟨#[82, 117, 110]⟩ : ByteArray) : ByteArray).size ≤ 140737488355328), HOK2.out.ok.step, HOK2.out.ok.scope, HOK2.out.ok.env, HOK2.out.ok.mat, HOK2.out.ok.prod, HOK2.out.ok.ncmd, HOK2.out.ok.nenv, HOK2.out.ok.nmat, HOK2.out.ok.nprod⟩, HOK2.out.cmd, HOK2.out.lo, HOK2.out.hi⟩)
    refine wp_gen (rs := [.cells g7 31 (recC y scy sey smy spy), .own (gt + 1) 9 1 scy.A scy.n scy.c (y.cmd.map sv), .own (gt + 1) 49 2 sey.A sey.n sey.c (y.env.map varC).flatten, .own (gt + 1) 70 33 smy.A smy.n smy.c (y.mat.map entC).flatten, .own (gt + 1) 70 33 spy.A spy.n spy.c (y.prod.map entC).flatten, .cells g6 31 (recC x1 sc1 se1 sm1 sp1), .own (gt + 1) 9 1 sc1.A sc1.n sc1.c (x1.cmd.map sv), .own (gt + 1) 49 2 se1.A se1.n se1.c (x1.env.map varC).flatten, .own (gt + 1) 70 33 sm1.A sm1.n sm1.c (x1.mat.map entC).flatten, .own (gt + 1) 70 33 sp1.A sp1.n sp1.c (x1.prod.map entC).flatten, tapeC gt A nl cl (at4), .cells w.heap.size 31 (recC x0 sc0 se0 sm0 sp0), .low (Go.AdR.Low.recd B x0 sc0 se0 sm0 sp0), .kept w w.heap.size]) (by rw [hy, hscy, hsey, hsmy, hspy, hat4]; exact All.store hW6 0 rfl 0 (.string (⟨#[82, 117, 110]⟩ : ByteArray)) ⟨fun g e => .inr (by injection e with e; subst e; exact own_ne_cells (hW6.at_ 1 rfl) (hW6.at_ 0 rfl) (by decide)), fun g e => .inr (by injection e with e; subst e; exact own_ne_cells (hW6.at_ 2 rfl) (hW6.at_ 0 rfl) (by decide)), fun g e => .inr (by injection e with e; subst e; exact own_ne_cells (hW6.at_ 3 rfl) (hW6.at_ 0 rfl) (by decide)), fun g e => .inr (by injection e with e; subst e; exact own_ne_cells (hW6.at_ 4 rfl) (hW6.at_ 0 rfl) (by decide)), fun e => by injection e with e; omega, fun g e => .inr (by injection e with e; subst e; exact own_ne_cells (hW6.at_ 6 rfl) (hW6.at_ 0 rfl) (by decide)), fun g e => .inr (by injection e with e; subst e; exact own_ne_cells (hW6.at_ 7 rfl) (hW6.at_ 0 rfl) (by decide)), fun g e => .inr (by injection e with e; subst e; exact own_ne_cells (hW6.at_ 8 rfl) (hW6.at_ 0 rfl) (by decide)), fun g e => .inr (by injection e with e; subst e; exact own_ne_cells (hW6.at_ 9 rfl) (hW6.at_ 0 rfl) (by decide)), fun e => by injection e with e; omega, fun e => by injection e with e; omega, fun g e => (by injection e with e; subst e; show B ≤ _; omega), fun g e => by injection e with e; omega, trivial⟩) ?_
    clear hy hscy hsey hsmy hspy hat4 hW6
    intro wY hY
    have hl7 := Cells.lt (hY.at_ 0 rfl)
    have hl6 := Cells.lt (hY.at_ 5 rfl)
    have hl0 := Cells.lt (hY.at_ 11 rfl)
    have hlt := Cells.lt (hY.at_ 10 rfl : Cells wY gt _ _)
    go_upto_region 20 with (first
      | (refine wl_load_any rfl 31 (.tmp 6) rfl ⟨g6, 0, none⟩ rfl (recC x1 sc1 se1 sm1 sp1) _ (cell_all (hY.at_ 5 rfl)) Tryz.underlying31 rfl (by kernel_rfl) ?_)
      | (refine wl_load_any rfl 31 (.tmp 7) rfl ⟨g7, 0, none⟩ rfl (recC y scy sey smy spy) _ (cell_all (hY.at_ 0 rfl)) Tryz.underlying31 rfl (by kernel_rfl) ?_)
      | (refine wl_lit2 el_recd rfl (.tmp 60) (.tmp 61) rfl (recC x1 sc1 se1 sm1 sp1) (recC y scy sey smy spy) rfl rfl rfl rfl (by decide) ?_; have hY2 := (hY.alloc (.cells (recC x1 sc1 se1 sm1 sp1 ++ recC y scy sey smy spy).toArray 31)).cons (r := .own wY.heap.size 31 8 (some ⟨wY.heap.size, 0, none⟩) 2 2 (recC x1 sc1 se1 sm1 sp1 ++ recC y scy sey smy spy)) (Go.Adm.Own.lit wY _ 2 (Nat.le_refl _) (by decide) rfl); obtain ⟨g8, hg8⟩ : ∃ g, g = wY.heap.size := ⟨_, rfl⟩; rw [← hg8] at hY2 hl7 hl6 hl0 hlt ⊢; clear hg8; refine wl_gen hY2 ?_; clear hY2 hY; intro w8 hY))
    have hin := (hY.at_ 13 rfl : RecIn w8 B x0 sc0 se0 sm0 sp0 ∧ B ≤ w8.heap.size)
    have hlt8 : w.heap.size ≤ w8.heap.size := (hY.at_ 14 rfl : _ ∧ _).2
    have hlight := light_any w8 B x0 sc0 se0 sm0 sp0 hin.1 HR.out hin.2
    go_upto_region 20 with (fail)
    go_wp2_with (first
      | (refine wl_load_any rfl 31 (.tmp 2) rfl ⟨w.heap.size, 0, none⟩ rfl (recC x0 sc0 se0 sm0 sp0) _ (cell_all (hY.at_ 12 rfl)) Tryz.underlying31 rfl (by kernel_rfl) ?_)
      | fail)
    refine hlight.mono ?_
    rintro e w9 ⟨b, rfl, hb9, hok0⟩
    have HOK0 := Lib.hid hok0
    have hY9 := hY.call hb9
    clear hY hb9 hlight hok0 hin
    have HG1 : Hid (∀ w', All w' [.own g8 31 8 (some ⟨g8, 0, none⟩) 2 2 (recC x1 sc1 se1 sm1 sp1 ++ recC y scy sey smy spy), .cells g7 31 (recC y scy sey smy spy), .own (gt + 1) 9 1 scy.A scy.n scy.c (y.cmd.map sv), .own (gt + 1) 49 2 sey.A sey.n sey.c (y.env.map varC).flatten, .own (gt + 1) 70 33 smy.A smy.n smy.c (y.mat.map entC).flatten, .own (gt + 1) 70 33 spy.A spy.n spy.c (y.prod.map entC).flatten, .cells g6 31 (recC x1 sc1 se1 sm1 sp1), .own (gt + 1) 9 1 sc1.A sc1.n sc1.c (x1.cmd.map sv), .own (gt + 1) 49 2 se1.A se1.n se1.c (x1.env.map varC).flatten, .own (gt + 1) 70 33 sm1.A sm1.n sm1.c (x1.mat.map entC).flatten, .own (gt + 1) 70 33 sp1.A sp1.n sp1.c (x1.prod.map entC).flatten, tapeC gt A nl cl (at4), .cells w.heap.size 31 (recC x0 sc0 se0 sm0 sp0), .low (Go.AdR.Low.recd B x0 sc0 se0 sm0 sp0), .kept w w.heap.size] → RecGood w' w'.heap.size ⟨x1, sc1, se1, sm1, sp1⟩) := Lib.hid (fun w' h => RecOwn.good (ts := 9) (tv := 49) (te := 70) ⟨h.at_ 7 rfl, h.at_ 8 rfl, h.at_ 9 rfl, h.at_ 10 rfl⟩ HOK1.out.ok HOK1.out.cmd HOK1.out.lo HOK1.out.hi)
    have HGY : Hid (∀ w', All w' [.own g8 31 8 (some ⟨g8, 0, none⟩) 2 2 (recC x1 sc1 se1 sm1 sp1 ++ recC y scy sey smy spy), .cells g7 31 (recC y scy sey smy spy), .own (gt + 1) 9 1 scy.A scy.n scy.c (y.cmd.map sv), .own (gt + 1) 49 2 sey.A sey.n sey.c (y.env.map varC).flatten, .own (gt + 1) 70 33 smy.A smy.n smy.c (y.mat.map entC).flatten, .own (gt + 1) 70 33 spy.A spy.n spy.c (y.prod.map entC).flatten, .cells g6 31 (recC x1 sc1 se1 sm1 sp1), .own (gt + 1) 9 1 sc1.A sc1.n sc1.c (x1.cmd.map sv), .own (gt + 1) 49 2 se1.A se1.n se1.c (x1.env.map varC).flatten, .own (gt + 1) 70 33 sm1.A sm1.n sm1.c (x1.mat.map entC).flatten, .own (gt + 1) 70 33 sp1.A sp1.n sp1.c (x1.prod.map entC).flatten, tapeC gt A nl cl (at4), .cells w.heap.size 31 (recC x0 sc0 se0 sm0 sp0), .low (Go.AdR.Low.recd B x0 sc0 se0 sm0 sp0), .kept w w.heap.size] → RecGood w' w'.heap.size ⟨y, scy, sey, smy, spy⟩) := Lib.hid (fun w' h => RecOwn.good (ts := 9) (tv := 49) (te := 70) ⟨h.at_ 2 rfl, h.at_ 3 rfl, h.at_ 4 rfl, h.at_ 5 rfl⟩ HOKY.out.ok HOKY.out.cmd HOKY.out.lo HOKY.out.hi)
    cases b with
    | false =>
      go_wp2_with fail
      go_ret
      refine ⟨some ⟨g8, 0, none⟩, 2, 2, [⟨x1, sc1, se1, sm1, sp1⟩, ⟨y, scy, sey, smy, spy⟩], rfl, by decide, rfl, ?_, ?_, (hY9.at_ 14 rfl : _ ∧ _).1⟩
      · exact Els.of (hY9.at_ 0 rfl) (by intro u hu; simp only [List.map_cons, List.map_nil, List.mem_cons, List.mem_nil_iff, or_false] at hu; rcases hu with rfl | rfl <;> rfl) rfl
      · intro r hr
        simp only [List.mem_cons, List.mem_nil_iff, or_false] at hr
        rcases hr with rfl | rfl
        · exact HG1.out _ hY9
        · exact HGY.out _ hY9
    | true =>
      have HOK9 : Hid (RecOk x0) := Lib.hid (HOK0.out rfl)
      clear HOK0
      have hl9 := Cells.lt (hY9.at_ 12 rfl)
      go_upto_region 22 with (first
        | (refine wl_load_any rfl 31 (.tmp 2) rfl ⟨w.heap.size, 0, none⟩ rfl (recC x0 sc0 se0 sm0 sp0) _ (cell_all (hY9.at_ 12 rfl)) Tryz.underlying31 rfl (by kernel_rfl) ?_)
        | (refine wl_lit1 el_recd rfl (.tmp 66) rfl (recC x0 sc0 se0 sm0 sp0) rfl rfl (by decide) ?_; have hY10 := hY9.alloc (.cells (recC x0 sc0 se0 sm0 sp0).toArray 31); have hrd10 := Rd.lit (size := 8) w9 (recC x0 sc0 se0 sm0 sp0).toArray 31 1 rfl; obtain ⟨w10, hw10⟩ : ∃ u, u = w9.alloc (.cells (recC x0 sc0 se0 sm0 sp0).toArray 31) := ⟨_, rfl⟩; rw [← hw10] at hY10 hrd10 ⊢; clear hw10)
        | (refine wl_app_at el_recd hY10 0 rfl (.tmp 65) (.tmp 67) rfl g8 (some ⟨g8, 0, none⟩) 2 2 (recC x1 sc1 se1 sm1 sp1 ++ recC y scy sey smy spy) rfl rfl _ _ 1 1 (recC x0 sc0 se0 sm0 sp0) rfl hrd10 ?uq1c0 ?uq2c0 ?uq3c0 ?uq4c0 ?uq5c0; go_must (
            case uq1c0 => exact recC_one _ _ _ _ _
            case uq2c0 => decide
            case uq3c0 => exact Nat.le_of_lt ((hY10.at_ 0 rfl : Go.Adm.Own w10 g8 31 8 (some ⟨g8, 0, none⟩) 2 2 _).lt rfl).2
            case uq4c0 =>
              intro g hg he
              obtain rfl : g8 = g := (by simpa [Value.ownBlock] using he)
              have hown := (hY10.at_ 0 rfl : Go.Adm.Own w10 g8 31 8 (some ⟨g8, 0, none⟩) 2 2 _)
              exact ⟨fun e => by injection e with e; omega, fun g' e => .inr (by injection e with e; subst e; exact own_ne_own (hY10.at_ 2 rfl) hown (by decide) rfl), fun g' e => .inr (by injection e with e; subst e; exact own_ne_own (hY10.at_ 3 rfl) hown (by decide) rfl), fun g' e => .inr (by injection e with e; subst e; exact own_ne_own (hY10.at_ 4 rfl) hown (by decide) rfl), fun g' e => .inr (by injection e with e; subst e; exact own_ne_own (hY10.at_ 5 rfl) hown (by decide) rfl), fun e => by injection e with e; omega, fun g' e => .inr (by injection e with e; subst e; exact own_ne_own (hY10.at_ 7 rfl) hown (by decide) rfl), fun g' e => .inr (by injection e with e; subst e; exact own_ne_own (hY10.at_ 8 rfl) hown (by decide) rfl), fun g' e => .inr (by injection e with e; subst e; exact own_ne_own (hY10.at_ 9 rfl) hown (by decide) rfl), fun g' e => .inr (by injection e with e; subst e; exact own_ne_own (hY10.at_ 10 rfl) hown (by decide) rfl), fun e => by injection e with e; omega, fun e => by injection e with e; omega, fun g' e => (by injection e with e; subst e; show B ≤ _; omega), fun g' e => by injection e with e; omega, trivial⟩
            intro A11 c11 w11 hY11 hs11)))
      simp only [List.set_cons_zero] at hY11
      have HG12 : Hid (∀ w', All w' [.own g8 31 8 A11 (2 + 1) c11 ((recC x1 sc1 se1 sm1 sp1 ++ recC y scy sey smy spy) ++ recC x0 sc0 se0 sm0 sp0), .cells g7 31 (recC y scy sey smy spy), .own (gt + 1) 9 1 scy.A scy.n scy.c (y.cmd.map sv), .own (gt + 1) 49 2 sey.A sey.n sey.c (y.env.map varC).flatten, .own (gt + 1) 70 33 smy.A smy.n smy.c (y.mat.map entC).flatten, .own (gt + 1) 70 33 spy.A spy.n spy.c (y.prod.map entC).flatten, .cells g6 31 (recC x1 sc1 se1 sm1 sp1), .own (gt + 1) 9 1 sc1.A sc1.n sc1.c (x1.cmd.map sv), .own (gt + 1) 49 2 se1.A se1.n se1.c (x1.env.map varC).flatten, .own (gt + 1) 70 33 sm1.A sm1.n sm1.c (x1.mat.map entC).flatten, .own (gt + 1) 70 33 sp1.A sp1.n sp1.c (x1.prod.map entC).flatten, tapeC gt A nl cl (at4), .cells w.heap.size 31 (recC x0 sc0 se0 sm0 sp0), .low (Go.AdR.Low.recd B x0 sc0 se0 sm0 sp0), .kept w w.heap.size] → RecGood w' w'.heap.size ⟨x1, sc1, se1, sm1, sp1⟩) := Lib.hid (fun w' h => RecOwn.good (ts := 9) (tv := 49) (te := 70) ⟨h.at_ 7 rfl, h.at_ 8 rfl, h.at_ 9 rfl, h.at_ 10 rfl⟩ HOK1.out.ok HOK1.out.cmd HOK1.out.lo HOK1.out.hi)
      have HGY2 : Hid (∀ w', All w' [.own g8 31 8 A11 (2 + 1) c11 ((recC x1 sc1 se1 sm1 sp1 ++ recC y scy sey smy spy) ++ recC x0 sc0 se0 sm0 sp0), .cells g7 31 (recC y scy sey smy spy), .own (gt + 1) 9 1 scy.A scy.n scy.c (y.cmd.map sv), .own (gt + 1) 49 2 sey.A sey.n sey.c (y.env.map varC).flatten, .own (gt + 1) 70 33 smy.A smy.n smy.c (y.mat.map entC).flatten, .own (gt + 1) 70 33 spy.A spy.n spy.c (y.prod.map entC).flatten, .cells g6 31 (recC x1 sc1 se1 sm1 sp1), .own (gt + 1) 9 1 sc1.A sc1.n sc1.c (x1.cmd.map sv), .own (gt + 1) 49 2 se1.A se1.n se1.c (x1.env.map varC).flatten, .own (gt + 1) 70 33 sm1.A sm1.n sm1.c (x1.mat.map entC).flatten, .own (gt + 1) 70 33 sp1.A sp1.n sp1.c (x1.prod.map entC).flatten, tapeC gt A nl cl (at4), .cells w.heap.size 31 (recC x0 sc0 se0 sm0 sp0), .low (Go.AdR.Low.recd B x0 sc0 se0 sm0 sp0), .kept w w.heap.size] → RecGood w' w'.heap.size ⟨y, scy, sey, smy, spy⟩) := Lib.hid (fun w' h => RecOwn.good (ts := 9) (tv := 49) (te := 70) ⟨h.at_ 2 rfl, h.at_ 3 rfl, h.at_ 4 rfl, h.at_ 5 rfl⟩ HOKY.out.ok HOKY.out.cmd HOKY.out.lo HOKY.out.hi)
      go_wp2_with fail
      go_ret
      refine ⟨A11, 3, c11, [⟨x1, sc1, se1, sm1, sp1⟩, ⟨y, scy, sey, smy, spy⟩, ⟨x0, sc0, se0, sm0, sp0⟩], rfl, by decide, rfl, ?_, ?_, (hY11.at_ 14 rfl : _ ∧ _).1⟩
      · exact Els.of (es := [RecM.cells ⟨x1, sc1, se1, sm1, sp1⟩, RecM.cells ⟨y, scy, sey, smy, spy⟩, RecM.cells ⟨x0, sc0, se0, sm0, sp0⟩]) (by have := (hY11.at_ 0 rfl : Go.Adm.Own w11 g8 31 8 A11 (2 + 1) c11 _); rw [List.append_assoc] at this; exact this) (by intro u hu; simp only [List.mem_cons, List.mem_nil_iff, or_false] at hu; rcases hu with rfl | rfl | rfl <;> rfl) rfl
      · intro r hr
        simp only [List.mem_cons, List.mem_nil_iff, or_false] at hr
        rcases hr with rfl | rfl | rfl
        · exact HG12.out _ hY11
        · exact HGY2.out _ hY11
        · have hin := (hY11.at_ 13 rfl : RecIn w11 B x0 sc0 se0 sm0 sp0 ∧ B ≤ w11.heap.size)
          exact ⟨⟨⟨hin.1.cmd.rd.mono hin.2, hin.1.cmd.small⟩, hin.1.env.mono hin.2, hin.1.mat.mono hin.2, hin.1.prod.mono hin.2⟩, HOK9.out, HR.out.lo, HR.out.hi⟩
  · have hl6 := Cells.lt (hW6.at_ 10 rfl : Cells w6 gt _ _)
    go_wp2_with fail
    refine (Pick_any _ gt B A nl cl at3 L ((hW6.at_ 10 rfl : Cells w6 gt _ _).alloc _) ((HL.out _ (hW6.at_ 13 rfl : _ ∧ _).1).alloc (by omega) _) (by omega) (by omega) oddL w6.heap.size 4 9 (Cells.new' w6 9 _ rfl rfl) (by omega) (by decide) (by decide) 4 rfl).mono ?_
    rintro e w7 ⟨s, hs, rfl, hc7, hg7⟩
    have hW7 : All w7 [.cells g7 31 (recC x2 sc2 se2 sm2 sp2), .own (gt + 1) 9 1 sc2.A sc2.n sc2.c (x2.cmd.map sv), .own (gt + 1) 49 2 se2.A se2.n se2.c (x2.env.map varC).flatten, .own (gt + 1) 70 33 sm2.A sm2.n sm2.c (x2.mat.map entC).flatten, .own (gt + 1) 70 33 sp2.A sp2.n sp2.c (x2.prod.map entC).flatten, .cells g6 31 (recC x1 sc1 se1 sm1 sp1), .own (gt + 1) 9 1 sc1.A sc1.n sc1.c (x1.cmd.map sv), .own (gt + 1) 49 2 se1.A se1.n se1.c (x1.env.map varC).flatten, .own (gt + 1) 70 33 sm1.A sm1.n sm1.c (x1.mat.map entC).flatten, .own (gt + 1) 70 33 sp1.A sp1.n sp1.c (x1.prod.map entC).flatten, tapeC gt A nl cl (at3 + 1), .cells w.heap.size 31 (recC x0 sc0 se0 sm0 sp0), .low (Go.AdR.Low.recd B x0 sc0 se0 sm0 sp0), .kept w w.heap.size] := All.upd hg7 10 (tapeC gt A nl cl (at3 + 1)) (hW6.alloc _) hc7 ⟨fun e => by injection e with e; omega, fun g e => .inl (by injection e with e; omega), fun g e => .inl (by injection e with e; omega), fun g e => .inl (by injection e with e; omega), fun g e => .inl (by injection e with e; omega), fun e => by injection e with e; omega, fun g e => .inl (by injection e with e; omega), fun g e => .inl (by injection e with e; omega), fun g e => .inl (by injection e with e; omega), fun g e => .inl (by injection e with e; omega), fun e => by injection e with e; omega, fun g e => (by injection e with e; subst e; show B ≤ _; omega), fun g e => by injection e with e; omega, trivial⟩
    clear hW6 hc7 hg7 hl6
    have hW6 := hW7
    clear hW7
    have c1 := cell_of (hW6.at_ 0 rfl) (i := 1) rfl
    have f1 := Cells.frozen (hW6.at_ 0 rfl) 1
    go_upto_region 19 with (fail)
    obtain ⟨y, hy⟩ : ∃ y : Rec, y = ⟨x2.run, s, x2.step, x2.t, x2.cmd, x2.env, x2.mat, x2.prod⟩ := ⟨_, rfl⟩
    obtain ⟨scy, hscy⟩ : ∃ s : Sl, s = sc2 := ⟨_, rfl⟩
    obtain ⟨sey, hsey⟩ : ∃ s : Sl, s = se2 := ⟨_, rfl⟩
    obtain ⟨smy, hsmy⟩ : ∃ s : Sl, s = sm2 := ⟨_, rfl⟩
    obtain ⟨spy, hspy⟩ : ∃ s : Sl, s = sp2 := ⟨_, rfl⟩
    obtain ⟨at4, hat4⟩ : ∃ k, k = at3 + 1 := ⟨_, rfl⟩
    have HOKY : Hid (RecFine y) := Lib.hid (by
      rw [hy]
      exact ⟨⟨HOK2.out.ok.run, HOK2.out.ok.step, Nat.le_trans (odd_small hs) (by decide), HOK2.out.ok.env, HOK2.out.ok.mat, HOK2.out.ok.prod, HOK2.out.ok.ncmd, HOK2.out.ok.nenv, HOK2.out.ok.nmat, HOK2.out.ok.nprod⟩, HOK2.out.cmd, HOK2.out.lo, HOK2.out.hi⟩)
    refine wp_gen (rs := [.cells g7 31 (recC y scy sey smy spy), .own (gt + 1) 9 1 scy.A scy.n scy.c (y.cmd.map sv), .own (gt + 1) 49 2 sey.A sey.n sey.c (y.env.map varC).flatten, .own (gt + 1) 70 33 smy.A smy.n smy.c (y.mat.map entC).flatten, .own (gt + 1) 70 33 spy.A spy.n spy.c (y.prod.map entC).flatten, .cells g6 31 (recC x1 sc1 se1 sm1 sp1), .own (gt + 1) 9 1 sc1.A sc1.n sc1.c (x1.cmd.map sv), .own (gt + 1) 49 2 se1.A se1.n se1.c (x1.env.map varC).flatten, .own (gt + 1) 70 33 sm1.A sm1.n sm1.c (x1.mat.map entC).flatten, .own (gt + 1) 70 33 sp1.A sp1.n sp1.c (x1.prod.map entC).flatten, tapeC gt A nl cl (at4), .cells w.heap.size 31 (recC x0 sc0 se0 sm0 sp0), .low (Go.AdR.Low.recd B x0 sc0 se0 sm0 sp0), .kept w w.heap.size]) (by rw [hy, hscy, hsey, hsmy, hspy, hat4]; exact All.store hW6 0 rfl 1 (.string s) ⟨fun g e => .inr (by injection e with e; subst e; exact own_ne_cells (hW6.at_ 1 rfl) (hW6.at_ 0 rfl) (by decide)), fun g e => .inr (by injection e with e; subst e; exact own_ne_cells (hW6.at_ 2 rfl) (hW6.at_ 0 rfl) (by decide)), fun g e => .inr (by injection e with e; subst e; exact own_ne_cells (hW6.at_ 3 rfl) (hW6.at_ 0 rfl) (by decide)), fun g e => .inr (by injection e with e; subst e; exact own_ne_cells (hW6.at_ 4 rfl) (hW6.at_ 0 rfl) (by decide)), fun e => by injection e with e; omega, fun g e => .inr (by injection e with e; subst e; exact own_ne_cells (hW6.at_ 6 rfl) (hW6.at_ 0 rfl) (by decide)), fun g e => .inr (by injection e with e; subst e; exact own_ne_cells (hW6.at_ 7 rfl) (hW6.at_ 0 rfl) (by decide)), fun g e => .inr (by injection e with e; subst e; exact own_ne_cells (hW6.at_ 8 rfl) (hW6.at_ 0 rfl) (by decide)), fun g e => .inr (by injection e with e; subst e; exact own_ne_cells (hW6.at_ 9 rfl) (hW6.at_ 0 rfl) (by decide)), fun e => by injection e with e; omega, fun e => by injection e with e; omega, fun g e => (by injection e with e; subst e; show B ≤ _; omega), fun g e => by injection e with e; omega, trivial⟩) ?_
    clear hy hscy hsey hsmy hspy hat4 hW6
    intro wY hY
    have hl7 := Cells.lt (hY.at_ 0 rfl)
    have hl6 := Cells.lt (hY.at_ 5 rfl)
    have hl0 := Cells.lt (hY.at_ 11 rfl)
    have hlt := Cells.lt (hY.at_ 10 rfl : Cells wY gt _ _)
    go_upto_region 20 with (first
      | (refine wl_load_any rfl 31 (.tmp 6) rfl ⟨g6, 0, none⟩ rfl (recC x1 sc1 se1 sm1 sp1) _ (cell_all (hY.at_ 5 rfl)) Tryz.underlying31 rfl (by kernel_rfl) ?_)
      | (refine wl_load_any rfl 31 (.tmp 7) rfl ⟨g7, 0, none⟩ rfl (recC y scy sey smy spy) _ (cell_all (hY.at_ 0 rfl)) Tryz.underlying31 rfl (by kernel_rfl) ?_)
      | (refine wl_lit2 el_recd rfl (.tmp 60) (.tmp 61) rfl (recC x1 sc1 se1 sm1 sp1) (recC y scy sey smy spy) rfl rfl rfl rfl (by decide) ?_; have hY2 := (hY.alloc (.cells (recC x1 sc1 se1 sm1 sp1 ++ recC y scy sey smy spy).toArray 31)).cons (r := .own wY.heap.size 31 8 (some ⟨wY.heap.size, 0, none⟩) 2 2 (recC x1 sc1 se1 sm1 sp1 ++ recC y scy sey smy spy)) (Go.Adm.Own.lit wY _ 2 (Nat.le_refl _) (by decide) rfl); obtain ⟨g8, hg8⟩ : ∃ g, g = wY.heap.size := ⟨_, rfl⟩; rw [← hg8] at hY2 hl7 hl6 hl0 hlt ⊢; clear hg8; refine wl_gen hY2 ?_; clear hY2 hY; intro w8 hY))
    have hin := (hY.at_ 13 rfl : RecIn w8 B x0 sc0 se0 sm0 sp0 ∧ B ≤ w8.heap.size)
    have hlt8 : w.heap.size ≤ w8.heap.size := (hY.at_ 14 rfl : _ ∧ _).2
    have hlight := light_any w8 B x0 sc0 se0 sm0 sp0 hin.1 HR.out hin.2
    go_upto_region 20 with (fail)
    go_wp2_with (first
      | (refine wl_load_any rfl 31 (.tmp 2) rfl ⟨w.heap.size, 0, none⟩ rfl (recC x0 sc0 se0 sm0 sp0) _ (cell_all (hY.at_ 12 rfl)) Tryz.underlying31 rfl (by kernel_rfl) ?_)
      | fail)
    refine hlight.mono ?_
    rintro e w9 ⟨b, rfl, hb9, hok0⟩
    have HOK0 := Lib.hid hok0
    have hY9 := hY.call hb9
    clear hY hb9 hlight hok0 hin
    have HG1 : Hid (∀ w', All w' [.own g8 31 8 (some ⟨g8, 0, none⟩) 2 2 (recC x1 sc1 se1 sm1 sp1 ++ recC y scy sey smy spy), .cells g7 31 (recC y scy sey smy spy), .own (gt + 1) 9 1 scy.A scy.n scy.c (y.cmd.map sv), .own (gt + 1) 49 2 sey.A sey.n sey.c (y.env.map varC).flatten, .own (gt + 1) 70 33 smy.A smy.n smy.c (y.mat.map entC).flatten, .own (gt + 1) 70 33 spy.A spy.n spy.c (y.prod.map entC).flatten, .cells g6 31 (recC x1 sc1 se1 sm1 sp1), .own (gt + 1) 9 1 sc1.A sc1.n sc1.c (x1.cmd.map sv), .own (gt + 1) 49 2 se1.A se1.n se1.c (x1.env.map varC).flatten, .own (gt + 1) 70 33 sm1.A sm1.n sm1.c (x1.mat.map entC).flatten, .own (gt + 1) 70 33 sp1.A sp1.n sp1.c (x1.prod.map entC).flatten, tapeC gt A nl cl (at4), .cells w.heap.size 31 (recC x0 sc0 se0 sm0 sp0), .low (Go.AdR.Low.recd B x0 sc0 se0 sm0 sp0), .kept w w.heap.size] → RecGood w' w'.heap.size ⟨x1, sc1, se1, sm1, sp1⟩) := Lib.hid (fun w' h => RecOwn.good (ts := 9) (tv := 49) (te := 70) ⟨h.at_ 7 rfl, h.at_ 8 rfl, h.at_ 9 rfl, h.at_ 10 rfl⟩ HOK1.out.ok HOK1.out.cmd HOK1.out.lo HOK1.out.hi)
    have HGY : Hid (∀ w', All w' [.own g8 31 8 (some ⟨g8, 0, none⟩) 2 2 (recC x1 sc1 se1 sm1 sp1 ++ recC y scy sey smy spy), .cells g7 31 (recC y scy sey smy spy), .own (gt + 1) 9 1 scy.A scy.n scy.c (y.cmd.map sv), .own (gt + 1) 49 2 sey.A sey.n sey.c (y.env.map varC).flatten, .own (gt + 1) 70 33 smy.A smy.n smy.c (y.mat.map entC).flatten, .own (gt + 1) 70 33 spy.A spy.n spy.c (y.prod.map entC).flatten, .cells g6 31 (recC x1 sc1 se1 sm1 sp1), .own (gt + 1) 9 1 sc1.A sc1.n sc1.c (x1.cmd.map sv), .own (gt + 1) 49 2 se1.A se1.n se1.c (x1.env.map varC).flatten, .own (gt + 1) 70 33 sm1.A sm1.n sm1.c (x1.mat.map entC).flatten, .own (gt + 1) 70 33 sp1.A sp1.n sp1.c (x1.prod.map entC).flatten, tapeC gt A nl cl (at4), .cells w.heap.size 31 (recC x0 sc0 se0 sm0 sp0), .low (Go.AdR.Low.recd B x0 sc0 se0 sm0 sp0), .kept w w.heap.size] → RecGood w' w'.heap.size ⟨y, scy, sey, smy, spy⟩) := Lib.hid (fun w' h => RecOwn.good (ts := 9) (tv := 49) (te := 70) ⟨h.at_ 2 rfl, h.at_ 3 rfl, h.at_ 4 rfl, h.at_ 5 rfl⟩ HOKY.out.ok HOKY.out.cmd HOKY.out.lo HOKY.out.hi)
    cases b with
    | false =>
      go_wp2_with fail
      go_ret
      refine ⟨some ⟨g8, 0, none⟩, 2, 2, [⟨x1, sc1, se1, sm1, sp1⟩, ⟨y, scy, sey, smy, spy⟩], rfl, by decide, rfl, ?_, ?_, (hY9.at_ 14 rfl : _ ∧ _).1⟩
      · exact Els.of (hY9.at_ 0 rfl) (by intro u hu; simp only [List.map_cons, List.map_nil, List.mem_cons, List.mem_nil_iff, or_false] at hu; rcases hu with rfl | rfl <;> rfl) rfl
      · intro r hr
        simp only [List.mem_cons, List.mem_nil_iff, or_false] at hr
        rcases hr with rfl | rfl
        · exact HG1.out _ hY9
        · exact HGY.out _ hY9
    | true =>
      have HOK9 : Hid (RecOk x0) := Lib.hid (HOK0.out rfl)
      clear HOK0
      have hl9 := Cells.lt (hY9.at_ 12 rfl)
      go_upto_region 22 with (first
        | (refine wl_load_any rfl 31 (.tmp 2) rfl ⟨w.heap.size, 0, none⟩ rfl (recC x0 sc0 se0 sm0 sp0) _ (cell_all (hY9.at_ 12 rfl)) Tryz.underlying31 rfl (by kernel_rfl) ?_)
        | (refine wl_lit1 el_recd rfl (.tmp 66) rfl (recC x0 sc0 se0 sm0 sp0) rfl rfl (by decide) ?_; have hY10 := hY9.alloc (.cells (recC x0 sc0 se0 sm0 sp0).toArray 31); have hrd10 := Rd.lit (size := 8) w9 (recC x0 sc0 se0 sm0 sp0).toArray 31 1 rfl; obtain ⟨w10, hw10⟩ : ∃ u, u = w9.alloc (.cells (recC x0 sc0 se0 sm0 sp0).toArray 31) := ⟨_, rfl⟩; rw [← hw10] at hY10 hrd10 ⊢; clear hw10)
        | (refine wl_app_at el_recd hY10 0 rfl (.tmp 65) (.tmp 67) rfl g8 (some ⟨g8, 0, none⟩) 2 2 (recC x1 sc1 se1 sm1 sp1 ++ recC y scy sey smy spy) rfl rfl _ _ 1 1 (recC x0 sc0 se0 sm0 sp0) rfl hrd10 ?uq1c1 ?uq2c1 ?uq3c1 ?uq4c1 ?uq5c1; go_must (
            case uq1c1 => exact recC_one _ _ _ _ _
            case uq2c1 => decide
            case uq3c1 => exact Nat.le_of_lt ((hY10.at_ 0 rfl : Go.Adm.Own w10 g8 31 8 (some ⟨g8, 0, none⟩) 2 2 _).lt rfl).2
            case uq4c1 =>
              intro g hg he
              obtain rfl : g8 = g := (by simpa [Value.ownBlock] using he)
              have hown := (hY10.at_ 0 rfl : Go.Adm.Own w10 g8 31 8 (some ⟨g8, 0, none⟩) 2 2 _)
              exact ⟨fun e => by injection e with e; omega, fun g' e => .inr (by injection e with e; subst e; exact own_ne_own (hY10.at_ 2 rfl) hown (by decide) rfl), fun g' e => .inr (by injection e with e; subst e; exact own_ne_own (hY10.at_ 3 rfl) hown (by decide) rfl), fun g' e => .inr (by injection e with e; subst e; exact own_ne_own (hY10.at_ 4 rfl) hown (by decide) rfl), fun g' e => .inr (by injection e with e; subst e; exact own_ne_own (hY10.at_ 5 rfl) hown (by decide) rfl), fun e => by injection e with e; omega, fun g' e => .inr (by injection e with e; subst e; exact own_ne_own (hY10.at_ 7 rfl) hown (by decide) rfl), fun g' e => .inr (by injection e with e; subst e; exact own_ne_own (hY10.at_ 8 rfl) hown (by decide) rfl), fun g' e => .inr (by injection e with e; subst e; exact own_ne_own (hY10.at_ 9 rfl) hown (by decide) rfl), fun g' e => .inr (by injection e with e; subst e; exact own_ne_own (hY10.at_ 10 rfl) hown (by decide) rfl), fun e => by injection e with e; omega, fun e => by injection e with e; omega, fun g' e => (by injection e with e; subst e; show B ≤ _; omega), fun g' e => by injection e with e; omega, trivial⟩
            intro A11 c11 w11 hY11 hs11)))
      simp only [List.set_cons_zero] at hY11
      have HG12 : Hid (∀ w', All w' [.own g8 31 8 A11 (2 + 1) c11 ((recC x1 sc1 se1 sm1 sp1 ++ recC y scy sey smy spy) ++ recC x0 sc0 se0 sm0 sp0), .cells g7 31 (recC y scy sey smy spy), .own (gt + 1) 9 1 scy.A scy.n scy.c (y.cmd.map sv), .own (gt + 1) 49 2 sey.A sey.n sey.c (y.env.map varC).flatten, .own (gt + 1) 70 33 smy.A smy.n smy.c (y.mat.map entC).flatten, .own (gt + 1) 70 33 spy.A spy.n spy.c (y.prod.map entC).flatten, .cells g6 31 (recC x1 sc1 se1 sm1 sp1), .own (gt + 1) 9 1 sc1.A sc1.n sc1.c (x1.cmd.map sv), .own (gt + 1) 49 2 se1.A se1.n se1.c (x1.env.map varC).flatten, .own (gt + 1) 70 33 sm1.A sm1.n sm1.c (x1.mat.map entC).flatten, .own (gt + 1) 70 33 sp1.A sp1.n sp1.c (x1.prod.map entC).flatten, tapeC gt A nl cl (at4), .cells w.heap.size 31 (recC x0 sc0 se0 sm0 sp0), .low (Go.AdR.Low.recd B x0 sc0 se0 sm0 sp0), .kept w w.heap.size] → RecGood w' w'.heap.size ⟨x1, sc1, se1, sm1, sp1⟩) := Lib.hid (fun w' h => RecOwn.good (ts := 9) (tv := 49) (te := 70) ⟨h.at_ 7 rfl, h.at_ 8 rfl, h.at_ 9 rfl, h.at_ 10 rfl⟩ HOK1.out.ok HOK1.out.cmd HOK1.out.lo HOK1.out.hi)
      have HGY2 : Hid (∀ w', All w' [.own g8 31 8 A11 (2 + 1) c11 ((recC x1 sc1 se1 sm1 sp1 ++ recC y scy sey smy spy) ++ recC x0 sc0 se0 sm0 sp0), .cells g7 31 (recC y scy sey smy spy), .own (gt + 1) 9 1 scy.A scy.n scy.c (y.cmd.map sv), .own (gt + 1) 49 2 sey.A sey.n sey.c (y.env.map varC).flatten, .own (gt + 1) 70 33 smy.A smy.n smy.c (y.mat.map entC).flatten, .own (gt + 1) 70 33 spy.A spy.n spy.c (y.prod.map entC).flatten, .cells g6 31 (recC x1 sc1 se1 sm1 sp1), .own (gt + 1) 9 1 sc1.A sc1.n sc1.c (x1.cmd.map sv), .own (gt + 1) 49 2 se1.A se1.n se1.c (x1.env.map varC).flatten, .own (gt + 1) 70 33 sm1.A sm1.n sm1.c (x1.mat.map entC).flatten, .own (gt + 1) 70 33 sp1.A sp1.n sp1.c (x1.prod.map entC).flatten, tapeC gt A nl cl (at4), .cells w.heap.size 31 (recC x0 sc0 se0 sm0 sp0), .low (Go.AdR.Low.recd B x0 sc0 se0 sm0 sp0), .kept w w.heap.size] → RecGood w' w'.heap.size ⟨y, scy, sey, smy, spy⟩) := Lib.hid (fun w' h => RecOwn.good (ts := 9) (tv := 49) (te := 70) ⟨h.at_ 2 rfl, h.at_ 3 rfl, h.at_ 4 rfl, h.at_ 5 rfl⟩ HOKY.out.ok HOKY.out.cmd HOKY.out.lo HOKY.out.hi)
      go_wp2_with fail
      go_ret
      refine ⟨A11, 3, c11, [⟨x1, sc1, se1, sm1, sp1⟩, ⟨y, scy, sey, smy, spy⟩, ⟨x0, sc0, se0, sm0, sp0⟩], rfl, by decide, rfl, ?_, ?_, (hY11.at_ 14 rfl : _ ∧ _).1⟩
      · exact Els.of (es := [RecM.cells ⟨x1, sc1, se1, sm1, sp1⟩, RecM.cells ⟨y, scy, sey, smy, spy⟩, RecM.cells ⟨x0, sc0, se0, sm0, sp0⟩]) (by have := (hY11.at_ 0 rfl : Go.Adm.Own w11 g8 31 8 A11 (2 + 1) c11 _); rw [List.append_assoc] at this; exact this) (by intro u hu; simp only [List.mem_cons, List.mem_nil_iff, or_false] at hu; rcases hu with rfl | rfl | rfl <;> rfl) rfl
      · intro r hr
        simp only [List.mem_cons, List.mem_nil_iff, or_false] at hr
        rcases hr with rfl | rfl | rfl
        · exact HG12.out _ hY11
        · exact HGY2.out _ hY11
        · have hin := (hY11.at_ 13 rfl : RecIn w11 B x0 sc0 se0 sm0 sp0 ∧ B ≤ w11.heap.size)
          exact ⟨⟨⟨hin.1.cmd.rd.mono hin.2, hin.1.cmd.small⟩, hin.1.env.mono hin.2, hin.1.mat.mono hin.2, hin.1.prod.mono hin.2⟩, HOK9.out, HR.out.lo, HR.out.hi⟩
  · go_wp2_with fail
    refine (Next_any w6 gt B A nl cl at3 3 L (hW6.at_ 10 rfl) (HL.out _ (hW6.at_ 13 rfl : _ ∧ _).1) (by omega) (by decide) (by decide) (by omega)).mono ?_
    rintro e w7 ⟨j, hj, rfl, hc7, hg7⟩
    have hW7 : All w7 [.cells g7 31 (recC x2 sc2 se2 sm2 sp2), .own (gt + 1) 9 1 sc2.A sc2.n sc2.c (x2.cmd.map sv), .own (gt + 1) 49 2 se2.A se2.n se2.c (x2.env.map varC).flatten, .own (gt + 1) 70 33 sm2.A sm2.n sm2.c (x2.mat.map entC).flatten, .own (gt + 1) 70 33 sp2.A sp2.n sp2.c (x2.prod.map entC).flatten, .cells g6 31 (recC x1 sc1 se1 sm1 sp1), .own (gt + 1) 9 1 sc1.A sc1.n sc1.c (x1.cmd.map sv), .own (gt + 1) 49 2 se1.A se1.n se1.c (x1.env.map varC).flatten, .own (gt + 1) 70 33 sm1.A sm1.n sm1.c (x1.mat.map entC).flatten, .own (gt + 1) 70 33 sp1.A sp1.n sp1.c (x1.prod.map entC).flatten, tapeC gt A nl cl (at3 + 1), .cells w.heap.size 31 (recC x0 sc0 se0 sm0 sp0), .low (Go.AdR.Low.recd B x0 sc0 se0 sm0 sp0), .kept w w.heap.size] := All.upd hg7 10 (tapeC gt A nl cl (at3 + 1)) hW6 hc7 ⟨fun e => by injection e with e; omega, fun g e => .inl (by injection e with e; omega), fun g e => .inl (by injection e with e; omega), fun g e => .inl (by injection e with e; omega), fun g e => .inl (by injection e with e; omega), fun e => by injection e with e; omega, fun g e => .inl (by injection e with e; omega), fun g e => .inl (by injection e with e; omega), fun g e => .inl (by injection e with e; omega), fun g e => .inl (by injection e with e; omega), fun e => by injection e with e; omega, fun g e => (by injection e with e; subst e; show B ≤ _; omega), fun g e => by injection e with e; omega, trivial⟩
    clear hW6 hc7 hg7
    have hW6 := hW7
    clear hW7
    have wa : IntKind.i64.wrap ((j : Int) - 1) = (j : Int) - 1 := IntWalk.i64_in _ (by omega)
    have wb : IntKind.i64.wrap (((j : Int) - 1) * 1099511627776) = ((j : Int) - 1) * 1099511627776 := IntWalk.i64_in _ (by omega)
    have c3 := cell_of (hW6.at_ 0 rfl) (i := 3) rfl
    have f3 := Cells.frozen (hW6.at_ 0 rfl) 3
    go_upto_region 19 with (fail)
    obtain ⟨y, hy⟩ : ∃ y : Rec, y = ⟨x2.run, x2.scope, x2.step, ((j : Int) - 1) * 1099511627776, x2.cmd, x2.env, x2.mat, x2.prod⟩ := ⟨_, rfl⟩
    obtain ⟨scy, hscy⟩ : ∃ s : Sl, s = sc2 := ⟨_, rfl⟩
    obtain ⟨sey, hsey⟩ : ∃ s : Sl, s = se2 := ⟨_, rfl⟩
    obtain ⟨smy, hsmy⟩ : ∃ s : Sl, s = sm2 := ⟨_, rfl⟩
    obtain ⟨spy, hspy⟩ : ∃ s : Sl, s = sp2 := ⟨_, rfl⟩
    obtain ⟨at4, hat4⟩ : ∃ k, k = at3 + 1 := ⟨_, rfl⟩
    have HOKY : Hid (RecFine y) := Lib.hid (by
      rw [hy]
      exact ⟨⟨HOK2.out.ok.run, HOK2.out.ok.step, HOK2.out.ok.scope, HOK2.out.ok.env, HOK2.out.ok.mat, HOK2.out.ok.prod, HOK2.out.ok.ncmd, HOK2.out.ok.nenv, HOK2.out.ok.nmat, HOK2.out.ok.nprod⟩, HOK2.out.cmd, (by show _ ≤ ((j : Int) - 1) * 1099511627776; omega), (by show ((j : Int) - 1) * 1099511627776 ≤ _; omega)⟩)
    refine wp_gen (rs := [.cells g7 31 (recC y scy sey smy spy), .own (gt + 1) 9 1 scy.A scy.n scy.c (y.cmd.map sv), .own (gt + 1) 49 2 sey.A sey.n sey.c (y.env.map varC).flatten, .own (gt + 1) 70 33 smy.A smy.n smy.c (y.mat.map entC).flatten, .own (gt + 1) 70 33 spy.A spy.n spy.c (y.prod.map entC).flatten, .cells g6 31 (recC x1 sc1 se1 sm1 sp1), .own (gt + 1) 9 1 sc1.A sc1.n sc1.c (x1.cmd.map sv), .own (gt + 1) 49 2 se1.A se1.n se1.c (x1.env.map varC).flatten, .own (gt + 1) 70 33 sm1.A sm1.n sm1.c (x1.mat.map entC).flatten, .own (gt + 1) 70 33 sp1.A sp1.n sp1.c (x1.prod.map entC).flatten, tapeC gt A nl cl (at4), .cells w.heap.size 31 (recC x0 sc0 se0 sm0 sp0), .low (Go.AdR.Low.recd B x0 sc0 se0 sm0 sp0), .kept w w.heap.size]) (by rw [hy, hscy, hsey, hsmy, hspy, hat4]; exact All.store hW6 0 rfl 3 (.int .i64 (((j : Int) - 1) * 1099511627776)) ⟨fun g e => .inr (by injection e with e; subst e; exact own_ne_cells (hW6.at_ 1 rfl) (hW6.at_ 0 rfl) (by decide)), fun g e => .inr (by injection e with e; subst e; exact own_ne_cells (hW6.at_ 2 rfl) (hW6.at_ 0 rfl) (by decide)), fun g e => .inr (by injection e with e; subst e; exact own_ne_cells (hW6.at_ 3 rfl) (hW6.at_ 0 rfl) (by decide)), fun g e => .inr (by injection e with e; subst e; exact own_ne_cells (hW6.at_ 4 rfl) (hW6.at_ 0 rfl) (by decide)), fun e => by injection e with e; omega, fun g e => .inr (by injection e with e; subst e; exact own_ne_cells (hW6.at_ 6 rfl) (hW6.at_ 0 rfl) (by decide)), fun g e => .inr (by injection e with e; subst e; exact own_ne_cells (hW6.at_ 7 rfl) (hW6.at_ 0 rfl) (by decide)), fun g e => .inr (by injection e with e; subst e; exact own_ne_cells (hW6.at_ 8 rfl) (hW6.at_ 0 rfl) (by decide)), fun g e => .inr (by injection e with e; subst e; exact own_ne_cells (hW6.at_ 9 rfl) (hW6.at_ 0 rfl) (by decide)), fun e => by injection e with e; omega, fun e => by injection e with e; omega, fun g e => (by injection e with e; subst e; show B ≤ _; omega), fun g e => by injection e with e; omega, trivial⟩) ?_
    clear hy hscy hsey hsmy hspy hat4 hW6
    intro wY hY
    have hl7 := Cells.lt (hY.at_ 0 rfl)
    have hl6 := Cells.lt (hY.at_ 5 rfl)
    have hl0 := Cells.lt (hY.at_ 11 rfl)
    have hlt := Cells.lt (hY.at_ 10 rfl : Cells wY gt _ _)
    go_upto_region 20 with (first
      | (refine wl_load_any rfl 31 (.tmp 6) rfl ⟨g6, 0, none⟩ rfl (recC x1 sc1 se1 sm1 sp1) _ (cell_all (hY.at_ 5 rfl)) Tryz.underlying31 rfl (by kernel_rfl) ?_)
      | (refine wl_load_any rfl 31 (.tmp 7) rfl ⟨g7, 0, none⟩ rfl (recC y scy sey smy spy) _ (cell_all (hY.at_ 0 rfl)) Tryz.underlying31 rfl (by kernel_rfl) ?_)
      | (refine wl_lit2 el_recd rfl (.tmp 60) (.tmp 61) rfl (recC x1 sc1 se1 sm1 sp1) (recC y scy sey smy spy) rfl rfl rfl rfl (by decide) ?_; have hY2 := (hY.alloc (.cells (recC x1 sc1 se1 sm1 sp1 ++ recC y scy sey smy spy).toArray 31)).cons (r := .own wY.heap.size 31 8 (some ⟨wY.heap.size, 0, none⟩) 2 2 (recC x1 sc1 se1 sm1 sp1 ++ recC y scy sey smy spy)) (Go.Adm.Own.lit wY _ 2 (Nat.le_refl _) (by decide) rfl); obtain ⟨g8, hg8⟩ : ∃ g, g = wY.heap.size := ⟨_, rfl⟩; rw [← hg8] at hY2 hl7 hl6 hl0 hlt ⊢; clear hg8; refine wl_gen hY2 ?_; clear hY2 hY; intro w8 hY))
    have hin := (hY.at_ 13 rfl : RecIn w8 B x0 sc0 se0 sm0 sp0 ∧ B ≤ w8.heap.size)
    have hlt8 : w.heap.size ≤ w8.heap.size := (hY.at_ 14 rfl : _ ∧ _).2
    have hlight := light_any w8 B x0 sc0 se0 sm0 sp0 hin.1 HR.out hin.2
    go_upto_region 20 with (fail)
    go_wp2_with (first
      | (refine wl_load_any rfl 31 (.tmp 2) rfl ⟨w.heap.size, 0, none⟩ rfl (recC x0 sc0 se0 sm0 sp0) _ (cell_all (hY.at_ 12 rfl)) Tryz.underlying31 rfl (by kernel_rfl) ?_)
      | fail)
    refine hlight.mono ?_
    rintro e w9 ⟨b, rfl, hb9, hok0⟩
    have HOK0 := Lib.hid hok0
    have hY9 := hY.call hb9
    clear hY hb9 hlight hok0 hin
    have HG1 : Hid (∀ w', All w' [.own g8 31 8 (some ⟨g8, 0, none⟩) 2 2 (recC x1 sc1 se1 sm1 sp1 ++ recC y scy sey smy spy), .cells g7 31 (recC y scy sey smy spy), .own (gt + 1) 9 1 scy.A scy.n scy.c (y.cmd.map sv), .own (gt + 1) 49 2 sey.A sey.n sey.c (y.env.map varC).flatten, .own (gt + 1) 70 33 smy.A smy.n smy.c (y.mat.map entC).flatten, .own (gt + 1) 70 33 spy.A spy.n spy.c (y.prod.map entC).flatten, .cells g6 31 (recC x1 sc1 se1 sm1 sp1), .own (gt + 1) 9 1 sc1.A sc1.n sc1.c (x1.cmd.map sv), .own (gt + 1) 49 2 se1.A se1.n se1.c (x1.env.map varC).flatten, .own (gt + 1) 70 33 sm1.A sm1.n sm1.c (x1.mat.map entC).flatten, .own (gt + 1) 70 33 sp1.A sp1.n sp1.c (x1.prod.map entC).flatten, tapeC gt A nl cl (at4), .cells w.heap.size 31 (recC x0 sc0 se0 sm0 sp0), .low (Go.AdR.Low.recd B x0 sc0 se0 sm0 sp0), .kept w w.heap.size] → RecGood w' w'.heap.size ⟨x1, sc1, se1, sm1, sp1⟩) := Lib.hid (fun w' h => RecOwn.good (ts := 9) (tv := 49) (te := 70) ⟨h.at_ 7 rfl, h.at_ 8 rfl, h.at_ 9 rfl, h.at_ 10 rfl⟩ HOK1.out.ok HOK1.out.cmd HOK1.out.lo HOK1.out.hi)
    have HGY : Hid (∀ w', All w' [.own g8 31 8 (some ⟨g8, 0, none⟩) 2 2 (recC x1 sc1 se1 sm1 sp1 ++ recC y scy sey smy spy), .cells g7 31 (recC y scy sey smy spy), .own (gt + 1) 9 1 scy.A scy.n scy.c (y.cmd.map sv), .own (gt + 1) 49 2 sey.A sey.n sey.c (y.env.map varC).flatten, .own (gt + 1) 70 33 smy.A smy.n smy.c (y.mat.map entC).flatten, .own (gt + 1) 70 33 spy.A spy.n spy.c (y.prod.map entC).flatten, .cells g6 31 (recC x1 sc1 se1 sm1 sp1), .own (gt + 1) 9 1 sc1.A sc1.n sc1.c (x1.cmd.map sv), .own (gt + 1) 49 2 se1.A se1.n se1.c (x1.env.map varC).flatten, .own (gt + 1) 70 33 sm1.A sm1.n sm1.c (x1.mat.map entC).flatten, .own (gt + 1) 70 33 sp1.A sp1.n sp1.c (x1.prod.map entC).flatten, tapeC gt A nl cl (at4), .cells w.heap.size 31 (recC x0 sc0 se0 sm0 sp0), .low (Go.AdR.Low.recd B x0 sc0 se0 sm0 sp0), .kept w w.heap.size] → RecGood w' w'.heap.size ⟨y, scy, sey, smy, spy⟩) := Lib.hid (fun w' h => RecOwn.good (ts := 9) (tv := 49) (te := 70) ⟨h.at_ 2 rfl, h.at_ 3 rfl, h.at_ 4 rfl, h.at_ 5 rfl⟩ HOKY.out.ok HOKY.out.cmd HOKY.out.lo HOKY.out.hi)
    cases b with
    | false =>
      go_wp2_with fail
      go_ret
      refine ⟨some ⟨g8, 0, none⟩, 2, 2, [⟨x1, sc1, se1, sm1, sp1⟩, ⟨y, scy, sey, smy, spy⟩], rfl, by decide, rfl, ?_, ?_, (hY9.at_ 14 rfl : _ ∧ _).1⟩
      · exact Els.of (hY9.at_ 0 rfl) (by intro u hu; simp only [List.map_cons, List.map_nil, List.mem_cons, List.mem_nil_iff, or_false] at hu; rcases hu with rfl | rfl <;> rfl) rfl
      · intro r hr
        simp only [List.mem_cons, List.mem_nil_iff, or_false] at hr
        rcases hr with rfl | rfl
        · exact HG1.out _ hY9
        · exact HGY.out _ hY9
    | true =>
      have HOK9 : Hid (RecOk x0) := Lib.hid (HOK0.out rfl)
      clear HOK0
      have hl9 := Cells.lt (hY9.at_ 12 rfl)
      go_upto_region 22 with (first
        | (refine wl_load_any rfl 31 (.tmp 2) rfl ⟨w.heap.size, 0, none⟩ rfl (recC x0 sc0 se0 sm0 sp0) _ (cell_all (hY9.at_ 12 rfl)) Tryz.underlying31 rfl (by kernel_rfl) ?_)
        | (refine wl_lit1 el_recd rfl (.tmp 66) rfl (recC x0 sc0 se0 sm0 sp0) rfl rfl (by decide) ?_; have hY10 := hY9.alloc (.cells (recC x0 sc0 se0 sm0 sp0).toArray 31); have hrd10 := Rd.lit (size := 8) w9 (recC x0 sc0 se0 sm0 sp0).toArray 31 1 rfl; obtain ⟨w10, hw10⟩ : ∃ u, u = w9.alloc (.cells (recC x0 sc0 se0 sm0 sp0).toArray 31) := ⟨_, rfl⟩; rw [← hw10] at hY10 hrd10 ⊢; clear hw10)
        | (refine wl_app_at el_recd hY10 0 rfl (.tmp 65) (.tmp 67) rfl g8 (some ⟨g8, 0, none⟩) 2 2 (recC x1 sc1 se1 sm1 sp1 ++ recC y scy sey smy spy) rfl rfl _ _ 1 1 (recC x0 sc0 se0 sm0 sp0) rfl hrd10 ?uq1c2 ?uq2c2 ?uq3c2 ?uq4c2 ?uq5c2; go_must (
            case uq1c2 => exact recC_one _ _ _ _ _
            case uq2c2 => decide
            case uq3c2 => exact Nat.le_of_lt ((hY10.at_ 0 rfl : Go.Adm.Own w10 g8 31 8 (some ⟨g8, 0, none⟩) 2 2 _).lt rfl).2
            case uq4c2 =>
              intro g hg he
              obtain rfl : g8 = g := (by simpa [Value.ownBlock] using he)
              have hown := (hY10.at_ 0 rfl : Go.Adm.Own w10 g8 31 8 (some ⟨g8, 0, none⟩) 2 2 _)
              exact ⟨fun e => by injection e with e; omega, fun g' e => .inr (by injection e with e; subst e; exact own_ne_own (hY10.at_ 2 rfl) hown (by decide) rfl), fun g' e => .inr (by injection e with e; subst e; exact own_ne_own (hY10.at_ 3 rfl) hown (by decide) rfl), fun g' e => .inr (by injection e with e; subst e; exact own_ne_own (hY10.at_ 4 rfl) hown (by decide) rfl), fun g' e => .inr (by injection e with e; subst e; exact own_ne_own (hY10.at_ 5 rfl) hown (by decide) rfl), fun e => by injection e with e; omega, fun g' e => .inr (by injection e with e; subst e; exact own_ne_own (hY10.at_ 7 rfl) hown (by decide) rfl), fun g' e => .inr (by injection e with e; subst e; exact own_ne_own (hY10.at_ 8 rfl) hown (by decide) rfl), fun g' e => .inr (by injection e with e; subst e; exact own_ne_own (hY10.at_ 9 rfl) hown (by decide) rfl), fun g' e => .inr (by injection e with e; subst e; exact own_ne_own (hY10.at_ 10 rfl) hown (by decide) rfl), fun e => by injection e with e; omega, fun e => by injection e with e; omega, fun g' e => (by injection e with e; subst e; show B ≤ _; omega), fun g' e => by injection e with e; omega, trivial⟩
            intro A11 c11 w11 hY11 hs11)))
      simp only [List.set_cons_zero] at hY11
      have HG12 : Hid (∀ w', All w' [.own g8 31 8 A11 (2 + 1) c11 ((recC x1 sc1 se1 sm1 sp1 ++ recC y scy sey smy spy) ++ recC x0 sc0 se0 sm0 sp0), .cells g7 31 (recC y scy sey smy spy), .own (gt + 1) 9 1 scy.A scy.n scy.c (y.cmd.map sv), .own (gt + 1) 49 2 sey.A sey.n sey.c (y.env.map varC).flatten, .own (gt + 1) 70 33 smy.A smy.n smy.c (y.mat.map entC).flatten, .own (gt + 1) 70 33 spy.A spy.n spy.c (y.prod.map entC).flatten, .cells g6 31 (recC x1 sc1 se1 sm1 sp1), .own (gt + 1) 9 1 sc1.A sc1.n sc1.c (x1.cmd.map sv), .own (gt + 1) 49 2 se1.A se1.n se1.c (x1.env.map varC).flatten, .own (gt + 1) 70 33 sm1.A sm1.n sm1.c (x1.mat.map entC).flatten, .own (gt + 1) 70 33 sp1.A sp1.n sp1.c (x1.prod.map entC).flatten, tapeC gt A nl cl (at4), .cells w.heap.size 31 (recC x0 sc0 se0 sm0 sp0), .low (Go.AdR.Low.recd B x0 sc0 se0 sm0 sp0), .kept w w.heap.size] → RecGood w' w'.heap.size ⟨x1, sc1, se1, sm1, sp1⟩) := Lib.hid (fun w' h => RecOwn.good (ts := 9) (tv := 49) (te := 70) ⟨h.at_ 7 rfl, h.at_ 8 rfl, h.at_ 9 rfl, h.at_ 10 rfl⟩ HOK1.out.ok HOK1.out.cmd HOK1.out.lo HOK1.out.hi)
      have HGY2 : Hid (∀ w', All w' [.own g8 31 8 A11 (2 + 1) c11 ((recC x1 sc1 se1 sm1 sp1 ++ recC y scy sey smy spy) ++ recC x0 sc0 se0 sm0 sp0), .cells g7 31 (recC y scy sey smy spy), .own (gt + 1) 9 1 scy.A scy.n scy.c (y.cmd.map sv), .own (gt + 1) 49 2 sey.A sey.n sey.c (y.env.map varC).flatten, .own (gt + 1) 70 33 smy.A smy.n smy.c (y.mat.map entC).flatten, .own (gt + 1) 70 33 spy.A spy.n spy.c (y.prod.map entC).flatten, .cells g6 31 (recC x1 sc1 se1 sm1 sp1), .own (gt + 1) 9 1 sc1.A sc1.n sc1.c (x1.cmd.map sv), .own (gt + 1) 49 2 se1.A se1.n se1.c (x1.env.map varC).flatten, .own (gt + 1) 70 33 sm1.A sm1.n sm1.c (x1.mat.map entC).flatten, .own (gt + 1) 70 33 sp1.A sp1.n sp1.c (x1.prod.map entC).flatten, tapeC gt A nl cl (at4), .cells w.heap.size 31 (recC x0 sc0 se0 sm0 sp0), .low (Go.AdR.Low.recd B x0 sc0 se0 sm0 sp0), .kept w w.heap.size] → RecGood w' w'.heap.size ⟨y, scy, sey, smy, spy⟩) := Lib.hid (fun w' h => RecOwn.good (ts := 9) (tv := 49) (te := 70) ⟨h.at_ 2 rfl, h.at_ 3 rfl, h.at_ 4 rfl, h.at_ 5 rfl⟩ HOKY.out.ok HOKY.out.cmd HOKY.out.lo HOKY.out.hi)
      go_wp2_with fail
      go_ret
      refine ⟨A11, 3, c11, [⟨x1, sc1, se1, sm1, sp1⟩, ⟨y, scy, sey, smy, spy⟩, ⟨x0, sc0, se0, sm0, sp0⟩], rfl, by decide, rfl, ?_, ?_, (hY11.at_ 14 rfl : _ ∧ _).1⟩
      · exact Els.of (es := [RecM.cells ⟨x1, sc1, se1, sm1, sp1⟩, RecM.cells ⟨y, scy, sey, smy, spy⟩, RecM.cells ⟨x0, sc0, se0, sm0, sp0⟩]) (by have := (hY11.at_ 0 rfl : Go.Adm.Own w11 g8 31 8 A11 (2 + 1) c11 _); rw [List.append_assoc] at this; exact this) (by intro u hu; simp only [List.mem_cons, List.mem_nil_iff, or_false] at hu; rcases hu with rfl | rfl | rfl <;> rfl) rfl
      · intro r hr
        simp only [List.mem_cons, List.mem_nil_iff, or_false] at hr
        rcases hr with rfl | rfl | rfl
        · exact HG12.out _ hY11
        · exact HGY2.out _ hY11
        · have hin := (hY11.at_ 13 rfl : RecIn w11 B x0 sc0 se0 sm0 sp0 ∧ B ≤ w11.heap.size)
          exact ⟨⟨⟨hin.1.cmd.rd.mono hin.2, hin.1.cmd.small⟩, hin.1.env.mono hin.2, hin.1.mat.mono hin.2, hin.1.prod.mono hin.2⟩, HOK9.out, HR.out.lo, HR.out.hi⟩
  · obtain ⟨gE, hgE⟩ : ∃ g, g = w6.heap.size := ⟨_, rfl⟩
    have hltE := Cells.lt (hW6.at_ 10 rfl : Cells w6 gt _ _)
    rw [← hgE] at hltE
    have HLT3 : Hid (∀ g, (Value.slice sm2.A sm2.n sm2.c).ownBlock = some g → g < gE) := Lib.hid (fun g e => by rw [hgE]; exact ((hW6.at_ 3 rfl : Go.Adm.Own w6 _ _ _ _ _ _ _).lt e).2)
    have HLT4 : Hid (∀ g, (Value.slice sp2.A sp2.n sp2.c).ownBlock = some g → g < gE) := Lib.hid (fun g e => by rw [hgE]; exact ((hW6.at_ 4 rfl : Go.Adm.Own w6 _ _ _ _ _ _ _).lt e).2)
    have HLT8 : Hid (∀ g, (Value.slice sm1.A sm1.n sm1.c).ownBlock = some g → g < gE) := Lib.hid (fun g e => by rw [hgE]; exact ((hW6.at_ 8 rfl : Go.Adm.Own w6 _ _ _ _ _ _ _).lt e).2)
    have HLT9 : Hid (∀ g, (Value.slice sp1.A sp1.n sp1.c).ownBlock = some g → g < gE) := Lib.hid (fun g e => by rw [hgE]; exact ((hW6.at_ 9 rfl : Go.Adm.Own w6 _ _ _ _ _ _ _).lt e).2)
    obtain ⟨e1, he1⟩ : ∃ e : E, e = ⟨(⟨#[97]⟩ : ByteArray), dig1⟩ := ⟨_, rfl⟩
    have HE1 : Hid (e1 = ⟨(⟨#[97]⟩ : ByteArray), dig1⟩) := Lib.hid he1
    have HEL : Hid ((entC e1).length = 33) := Lib.hid (by rw [he1]; rfl)
    have HE3 : Hid (E32 e1) := Lib.hid (by rw [he1]; exact ⟨rfl, by decide⟩)
    clear he1
    have hE0 : Go.Adm.Own (w6.alloc (.cells #[] 70)) gE 70 33 (some ⟨gE, 0, none⟩) 0 0 [] := by
      have := Go.Adm.Own.lit (size := 33) (e := 70) (base := gE) w6 #[] 0 (by omega) (by decide) rfl
      rw [← hgE] at this
      exact this
    have hA1 := hW6.alloc (.cells #[] 70)
    obtain ⟨U1, hU1⟩ : ∃ u, u = w6.alloc (.cells #[] 70) := ⟨_, rfl⟩
    have c7 : (w6.alloc (.cells #[] 70)).cell? ⟨g7, 7, none⟩ = some (.slice sp2.A sp2.n sp2.c) := cell_of (hA1.at_ 0 rfl) (i := 7) rfl
    rw [← hU1] at hE0 hA1
    have hs1 : gE ≤ U1.heap.size := by rw [hU1, hgE]; simp
    have hnp : sp2.n ≤ 1000 := by
      have h1 := (hA1.at_ 4 rfl : Go.Adm.Own U1 _ _ _ _ _ _ _).1
      rw [flat_len (size := 33) (ents_len HOK2.out.ok.prod)] at h1
      have h2 := HOK2.out.nprod
      simp at h1
      omega
    have hrdP := (hA1.at_ 4 rfl : Go.Adm.Own U1 _ _ _ sp2.A sp2.n sp2.c _).rd
    go_upto_region 19 with (first
      | (rw [← hU1]; simp only [← hgE]; clear c7 hU1 hgE; refine wpList_plain rfl fun K hK => wp_app0 el_ent (.tmp 36) (.tmp 38) rfl gE ⟨gE, 0, none⟩ rfl hE0 sp2.A sp2.n sp2.c (x2.prod.map entC).flatten rfl hrdP (ents_one _) (Nat.le_trans (Nat.mul_le_mul_right 48 hnp) (by decide)) hs1 fun A' c' w7 ho7 hg7 => hK _ _ ?_; clear hK; have hs7 : gE ≤ w7.heap.size := Nat.le_trans hs1 hg7.size; have hW7 := All.cons (r := .own gE 70 33 A' sp2.n c' (x2.prod.map entC).flatten) ho7 (hA1.quiet hg7); clear hA1 ho7 hg7 hE0 hrdP hs1)
      | (refine wl_val rfl 68 [(0, .const (.int .u8 1))] rfl _ (run_dig1 _) ?_)
      | (refine wl_build rfl 70 [(0, .const (.string (⟨#[97]⟩ : ByteArray))), (1, .tmp 40)] rfl _ _ #[(0, 1), (1, 32)] (entC e1).toArray zero_ent Tryz.underlying70 (fun w => by kernel_rfl) ?_ ?_; rw [HE1.out]; exact fill_ent _ _ rfl)
      | (refine wl_lit1 el_ent rfl (.tmp 41) rfl (entC e1) rfl HEL.out (by decide) ?_; have hW8 := hW7.alloc (.cells (entC e1).toArray 70); have hrd8 : Rd (w7.alloc (.cells (entC e1).toArray 70)) (w7.heap.size + 1) 33 (some ⟨w7.heap.size, 0, none⟩) 1 (entC e1) := Rd.lit (size := 33) w7 (entC e1).toArray 70 1 (by rw [List.size_toArray]; exact HEL.out); obtain ⟨w8, hw8⟩ : ∃ u, u = w7.alloc (.cells (entC e1).toArray 70) := ⟨_, rfl⟩; rw [← hw8] at hW8 hrd8 ⊢; have hs8 : gE ≤ w8.heap.size := (by rw [hw8]; exact Nat.le_trans hs7 (by simp)); clear hw8 hW7)
      | (refine wl_app_at el_ent hW8 0 rfl (.tmp 39) (.tmp 42) rfl gE A' sp2.n c' (x2.prod.map entC).flatten rfl rfl (w7.heap.size + 1) (some ⟨w7.heap.size, 0, none⟩) 1 1 (entC e1) rfl hrd8 ?uw1c3 ?uw2c3 ?uw3c3 ?uw4c3 ?uw5c3; go_must (
          case uw1c3 => exact entC_one' _
          case uw2c3 => omega
          case uw3c3 => exact hs8
          case uw4c3 =>
            intro g hg he
            have hown := (hW8.at_ 0 rfl : Go.Adm.Own w8 gE 70 33 A' sp2.n c' (x2.prod.map entC).flatten)
            exact ⟨fun e => own_ne_cells hown (hW8.at_ 1 rfl) (by decide) (by rw [he, ← e]), fun g' e => .inr (by injection e with e; subst e; exact own_ne_own (hW8.at_ 2 rfl) hown (by decide) he), fun g' e => .inr (by injection e with e; subst e; exact own_ne_own (hW8.at_ 3 rfl) hown (by decide) he), fun g' e => .inr (fun e2 => by have := HLT3.out _ e2; injection e with e; omega), fun g' e => .inr (fun e2 => by have := HLT4.out _ e2; injection e with e; omega), fun e => own_ne_cells hown (hW8.at_ 6 rfl) (by decide) (by rw [he, ← e]), fun g' e => .inr (by injection e with e; subst e; exact own_ne_own (hW8.at_ 7 rfl) hown (by decide) he), fun g' e => .inr (by injection e with e; subst e; exact own_ne_own (hW8.at_ 8 rfl) hown (by decide) he), fun g' e => .inr (fun e2 => by have := HLT8.out _ e2; injection e with e; omega), fun g' e => .inr (fun e2 => by have := HLT9.out _ e2; injection e with e; omega), fun e => by injection e with e; omega, fun e => own_ne_cells hown (hW8.at_ 12 rfl) (by decide) (by rw [he, ← e]), fun g' e => (by injection e with e; subst e; show B ≤ _; omega), fun g' e => by injection e with e; omega, trivial⟩
          intro A9 c9 w9 hW9 hs9
          simp only [List.set_cons_zero] at hW9
          have hC9 : Cells w9 g7 31 (recC x2 sc2 se2 sm2 sp2) := hW9.at_ 1 rfl
          have c7 : w9.cell? ⟨g7, 7, none⟩ = some (.slice sp2.A sp2.n sp2.c) := cell_of hC9 (i := 7) rfl
          have f7 : w9.frozen? ⟨g7, 7, none⟩ = false := Cells.frozen hC9 7
          clear hW8 hrd8 hC9
          go_upto_region 19 with (fail))))
    have hS := All.store hW9 1 rfl 7 (.slice A9 (sp2.n + 1) c9) ⟨fun g e => .inr (by injection e with e; subst e; exact own_ne_cells (hW9.at_ 0 rfl) (hW9.at_ 1 rfl) (by decide)), fun g e => .inr (by injection e with e; subst e; exact own_ne_cells (hW9.at_ 2 rfl) (hW9.at_ 1 rfl) (by decide)), fun g e => .inr (by injection e with e; subst e; exact own_ne_cells (hW9.at_ 3 rfl) (hW9.at_ 1 rfl) (by decide)), fun g e => .inr (by injection e with e; subst e; exact own_ne_cells (hW9.at_ 4 rfl) (hW9.at_ 1 rfl) (by decide)), fun g e => .inr (by injection e with e; subst e; exact own_ne_cells (hW9.at_ 5 rfl) (hW9.at_ 1 rfl) (by decide)), fun e => by injection e with e; omega, fun g e => .inr (by injection e with e; subst e; exact own_ne_cells (hW9.at_ 7 rfl) (hW9.at_ 1 rfl) (by decide)), fun g e => .inr (by injection e with e; subst e; exact own_ne_cells (hW9.at_ 8 rfl) (hW9.at_ 1 rfl) (by decide)), fun g e => .inr (by injection e with e; subst e; exact own_ne_cells (hW9.at_ 9 rfl) (hW9.at_ 1 rfl) (by decide)), fun g e => .inr (by injection e with e; subst e; exact own_ne_cells (hW9.at_ 10 rfl) (hW9.at_ 1 rfl) (by decide)), fun e => by injection e with e; omega, fun e => by injection e with e; omega, fun g e => (by injection e with e; subst e; show B ≤ _; omega), fun g e => by injection e with e; omega, trivial⟩
    simp only [List.set_cons_succ, List.set_cons_zero] at hS
    clear hW9
    obtain ⟨y, hy⟩ : ∃ y : Rec, y = ⟨x2.run, x2.scope, x2.step, x2.t, x2.cmd, x2.env, x2.mat, x2.prod ++ [e1]⟩ := ⟨_, rfl⟩
    obtain ⟨scy, hscy⟩ : ∃ s : Sl, s = sc2 := ⟨_, rfl⟩
    obtain ⟨sey, hsey⟩ : ∃ s : Sl, s = se2 := ⟨_, rfl⟩
    obtain ⟨smy, hsmy⟩ : ∃ s : Sl, s = sm2 := ⟨_, rfl⟩
    obtain ⟨spy, hspy⟩ : ∃ s : Sl, s = (⟨A9, sp2.n + 1, c9⟩ : Sl) := ⟨_, rfl⟩
    obtain ⟨at4, hat4⟩ : ∃ k, k = at3 := ⟨_, rfl⟩
    have HOKY : Hid (RecFine y) := Lib.hid (by
      rw [hy]
      exact ⟨⟨HOK2.out.ok.run, HOK2.out.ok.step, HOK2.out.ok.scope, HOK2.out.ok.env, HOK2.out.ok.mat, (by intro e he; rcases List.mem_append.1 he with h | h; exact HOK2.out.ok.prod e h; rw [List.mem_singleton.1 h]; exact HE3.out), HOK2.out.ok.ncmd, HOK2.out.ok.nenv, HOK2.out.ok.nmat, (by have := HOK2.out.nprod; rw [List.length_append]; simp; omega)⟩, HOK2.out.cmd, HOK2.out.lo, HOK2.out.hi⟩)
    refine wp_gen (rs := [.cells g7 31 (recC y scy sey smy spy), .own (gt + 1) 9 1 scy.A scy.n scy.c (y.cmd.map sv), .own (gt + 1) 49 2 sey.A sey.n sey.c (y.env.map varC).flatten, .own (gt + 1) 70 33 smy.A smy.n smy.c (y.mat.map entC).flatten, .own (gt + 1) 70 33 spy.A spy.n spy.c (y.prod.map entC).flatten, .cells g6 31 (recC x1 sc1 se1 sm1 sp1), .own (gt + 1) 9 1 sc1.A sc1.n sc1.c (x1.cmd.map sv), .own (gt + 1) 49 2 se1.A se1.n se1.c (x1.env.map varC).flatten, .own (gt + 1) 70 33 sm1.A sm1.n sm1.c (x1.mat.map entC).flatten, .own (gt + 1) 70 33 sp1.A sp1.n sp1.c (x1.prod.map entC).flatten, tapeC gt A nl cl (at4), .cells w.heap.size 31 (recC x0 sc0 se0 sm0 sp0), .low (Go.AdR.Low.recd B x0 sc0 se0 sm0 sp0), .kept w w.heap.size]) (by rw [hy, hscy, hsey, hsmy, hspy, hat4]; exact ⟨hS.at_ 1 rfl, hS.at_ 2 rfl, hS.at_ 3 rfl, hS.at_ 4 rfl, flatE (x := e1) ((hS.at_ 0 rfl : Go.Adm.Own _ gE _ _ A9 (sp2.n + 1) c9 _).less (by omega)), hS.at_ 6 rfl, hS.at_ 7 rfl, hS.at_ 8 rfl, hS.at_ 9 rfl, hS.at_ 10 rfl, hS.at_ 11 rfl, hS.at_ 12 rfl, hS.at_ 13 rfl, hS.at_ 14 rfl, trivial⟩) ?_
    clear hy hscy hsey hsmy hspy hat4 hS
    intro wY hY
    have hl7 := Cells.lt (hY.at_ 0 rfl)
    have hl6 := Cells.lt (hY.at_ 5 rfl)
    have hl0 := Cells.lt (hY.at_ 11 rfl)
    have hlt := Cells.lt (hY.at_ 10 rfl : Cells wY gt _ _)
    go_upto_region 20 with (first
      | (refine wl_load_any rfl 31 (.tmp 6) rfl ⟨g6, 0, none⟩ rfl (recC x1 sc1 se1 sm1 sp1) _ (cell_all (hY.at_ 5 rfl)) Tryz.underlying31 rfl (by kernel_rfl) ?_)
      | (refine wl_load_any rfl 31 (.tmp 7) rfl ⟨g7, 0, none⟩ rfl (recC y scy sey smy spy) _ (cell_all (hY.at_ 0 rfl)) Tryz.underlying31 rfl (by kernel_rfl) ?_)
      | (refine wl_lit2 el_recd rfl (.tmp 60) (.tmp 61) rfl (recC x1 sc1 se1 sm1 sp1) (recC y scy sey smy spy) rfl rfl rfl rfl (by decide) ?_; have hY2 := (hY.alloc (.cells (recC x1 sc1 se1 sm1 sp1 ++ recC y scy sey smy spy).toArray 31)).cons (r := .own wY.heap.size 31 8 (some ⟨wY.heap.size, 0, none⟩) 2 2 (recC x1 sc1 se1 sm1 sp1 ++ recC y scy sey smy spy)) (Go.Adm.Own.lit wY _ 2 (Nat.le_refl _) (by decide) rfl); obtain ⟨g8, hg8⟩ : ∃ g, g = wY.heap.size := ⟨_, rfl⟩; rw [← hg8] at hY2 hl7 hl6 hl0 hlt ⊢; clear hg8; refine wl_gen hY2 ?_; clear hY2 hY; intro w8 hY))
    have hin := (hY.at_ 13 rfl : RecIn w8 B x0 sc0 se0 sm0 sp0 ∧ B ≤ w8.heap.size)
    have hlt8 : w.heap.size ≤ w8.heap.size := (hY.at_ 14 rfl : _ ∧ _).2
    have hlight := light_any w8 B x0 sc0 se0 sm0 sp0 hin.1 HR.out hin.2
    go_upto_region 20 with (fail)
    go_wp2_with (first
      | (refine wl_load_any rfl 31 (.tmp 2) rfl ⟨w.heap.size, 0, none⟩ rfl (recC x0 sc0 se0 sm0 sp0) _ (cell_all (hY.at_ 12 rfl)) Tryz.underlying31 rfl (by kernel_rfl) ?_)
      | fail)
    refine hlight.mono ?_
    rintro e w9 ⟨b, rfl, hb9, hok0⟩
    have HOK0 := Lib.hid hok0
    have hY9 := hY.call hb9
    clear hY hb9 hlight hok0 hin
    have HG1 : Hid (∀ w', All w' [.own g8 31 8 (some ⟨g8, 0, none⟩) 2 2 (recC x1 sc1 se1 sm1 sp1 ++ recC y scy sey smy spy), .cells g7 31 (recC y scy sey smy spy), .own (gt + 1) 9 1 scy.A scy.n scy.c (y.cmd.map sv), .own (gt + 1) 49 2 sey.A sey.n sey.c (y.env.map varC).flatten, .own (gt + 1) 70 33 smy.A smy.n smy.c (y.mat.map entC).flatten, .own (gt + 1) 70 33 spy.A spy.n spy.c (y.prod.map entC).flatten, .cells g6 31 (recC x1 sc1 se1 sm1 sp1), .own (gt + 1) 9 1 sc1.A sc1.n sc1.c (x1.cmd.map sv), .own (gt + 1) 49 2 se1.A se1.n se1.c (x1.env.map varC).flatten, .own (gt + 1) 70 33 sm1.A sm1.n sm1.c (x1.mat.map entC).flatten, .own (gt + 1) 70 33 sp1.A sp1.n sp1.c (x1.prod.map entC).flatten, tapeC gt A nl cl (at4), .cells w.heap.size 31 (recC x0 sc0 se0 sm0 sp0), .low (Go.AdR.Low.recd B x0 sc0 se0 sm0 sp0), .kept w w.heap.size] → RecGood w' w'.heap.size ⟨x1, sc1, se1, sm1, sp1⟩) := Lib.hid (fun w' h => RecOwn.good (ts := 9) (tv := 49) (te := 70) ⟨h.at_ 7 rfl, h.at_ 8 rfl, h.at_ 9 rfl, h.at_ 10 rfl⟩ HOK1.out.ok HOK1.out.cmd HOK1.out.lo HOK1.out.hi)
    have HGY : Hid (∀ w', All w' [.own g8 31 8 (some ⟨g8, 0, none⟩) 2 2 (recC x1 sc1 se1 sm1 sp1 ++ recC y scy sey smy spy), .cells g7 31 (recC y scy sey smy spy), .own (gt + 1) 9 1 scy.A scy.n scy.c (y.cmd.map sv), .own (gt + 1) 49 2 sey.A sey.n sey.c (y.env.map varC).flatten, .own (gt + 1) 70 33 smy.A smy.n smy.c (y.mat.map entC).flatten, .own (gt + 1) 70 33 spy.A spy.n spy.c (y.prod.map entC).flatten, .cells g6 31 (recC x1 sc1 se1 sm1 sp1), .own (gt + 1) 9 1 sc1.A sc1.n sc1.c (x1.cmd.map sv), .own (gt + 1) 49 2 se1.A se1.n se1.c (x1.env.map varC).flatten, .own (gt + 1) 70 33 sm1.A sm1.n sm1.c (x1.mat.map entC).flatten, .own (gt + 1) 70 33 sp1.A sp1.n sp1.c (x1.prod.map entC).flatten, tapeC gt A nl cl (at4), .cells w.heap.size 31 (recC x0 sc0 se0 sm0 sp0), .low (Go.AdR.Low.recd B x0 sc0 se0 sm0 sp0), .kept w w.heap.size] → RecGood w' w'.heap.size ⟨y, scy, sey, smy, spy⟩) := Lib.hid (fun w' h => RecOwn.good (ts := 9) (tv := 49) (te := 70) ⟨h.at_ 2 rfl, h.at_ 3 rfl, h.at_ 4 rfl, h.at_ 5 rfl⟩ HOKY.out.ok HOKY.out.cmd HOKY.out.lo HOKY.out.hi)
    cases b with
    | false =>
      go_wp2_with fail
      go_ret
      refine ⟨some ⟨g8, 0, none⟩, 2, 2, [⟨x1, sc1, se1, sm1, sp1⟩, ⟨y, scy, sey, smy, spy⟩], rfl, by decide, rfl, ?_, ?_, (hY9.at_ 14 rfl : _ ∧ _).1⟩
      · exact Els.of (hY9.at_ 0 rfl) (by intro u hu; simp only [List.map_cons, List.map_nil, List.mem_cons, List.mem_nil_iff, or_false] at hu; rcases hu with rfl | rfl <;> rfl) rfl
      · intro r hr
        simp only [List.mem_cons, List.mem_nil_iff, or_false] at hr
        rcases hr with rfl | rfl
        · exact HG1.out _ hY9
        · exact HGY.out _ hY9
    | true =>
      have HOK9 : Hid (RecOk x0) := Lib.hid (HOK0.out rfl)
      clear HOK0
      have hl9 := Cells.lt (hY9.at_ 12 rfl)
      go_upto_region 22 with (first
        | (refine wl_load_any rfl 31 (.tmp 2) rfl ⟨w.heap.size, 0, none⟩ rfl (recC x0 sc0 se0 sm0 sp0) _ (cell_all (hY9.at_ 12 rfl)) Tryz.underlying31 rfl (by kernel_rfl) ?_)
        | (refine wl_lit1 el_recd rfl (.tmp 66) rfl (recC x0 sc0 se0 sm0 sp0) rfl rfl (by decide) ?_; have hY10 := hY9.alloc (.cells (recC x0 sc0 se0 sm0 sp0).toArray 31); have hrd10 := Rd.lit (size := 8) w9 (recC x0 sc0 se0 sm0 sp0).toArray 31 1 rfl; obtain ⟨w10, hw10⟩ : ∃ u, u = w9.alloc (.cells (recC x0 sc0 se0 sm0 sp0).toArray 31) := ⟨_, rfl⟩; rw [← hw10] at hY10 hrd10 ⊢; clear hw10)
        | (refine wl_app_at el_recd hY10 0 rfl (.tmp 65) (.tmp 67) rfl g8 (some ⟨g8, 0, none⟩) 2 2 (recC x1 sc1 se1 sm1 sp1 ++ recC y scy sey smy spy) rfl rfl _ _ 1 1 (recC x0 sc0 se0 sm0 sp0) rfl hrd10 ?uq1c3 ?uq2c3 ?uq3c3 ?uq4c3 ?uq5c3; go_must (
            case uq1c3 => exact recC_one _ _ _ _ _
            case uq2c3 => decide
            case uq3c3 => exact Nat.le_of_lt ((hY10.at_ 0 rfl : Go.Adm.Own w10 g8 31 8 (some ⟨g8, 0, none⟩) 2 2 _).lt rfl).2
            case uq4c3 =>
              intro g hg he
              obtain rfl : g8 = g := (by simpa [Value.ownBlock] using he)
              have hown := (hY10.at_ 0 rfl : Go.Adm.Own w10 g8 31 8 (some ⟨g8, 0, none⟩) 2 2 _)
              exact ⟨fun e => by injection e with e; omega, fun g' e => .inr (by injection e with e; subst e; exact own_ne_own (hY10.at_ 2 rfl) hown (by decide) rfl), fun g' e => .inr (by injection e with e; subst e; exact own_ne_own (hY10.at_ 3 rfl) hown (by decide) rfl), fun g' e => .inr (by injection e with e; subst e; exact own_ne_own (hY10.at_ 4 rfl) hown (by decide) rfl), fun g' e => .inr (by injection e with e; subst e; exact own_ne_own (hY10.at_ 5 rfl) hown (by decide) rfl), fun e => by injection e with e; omega, fun g' e => .inr (by injection e with e; subst e; exact own_ne_own (hY10.at_ 7 rfl) hown (by decide) rfl), fun g' e => .inr (by injection e with e; subst e; exact own_ne_own (hY10.at_ 8 rfl) hown (by decide) rfl), fun g' e => .inr (by injection e with e; subst e; exact own_ne_own (hY10.at_ 9 rfl) hown (by decide) rfl), fun g' e => .inr (by injection e with e; subst e; exact own_ne_own (hY10.at_ 10 rfl) hown (by decide) rfl), fun e => by injection e with e; omega, fun e => by injection e with e; omega, fun g' e => (by injection e with e; subst e; show B ≤ _; omega), fun g' e => by injection e with e; omega, trivial⟩
            intro A11 c11 w11 hY11 hs11)))
      simp only [List.set_cons_zero] at hY11
      have HG12 : Hid (∀ w', All w' [.own g8 31 8 A11 (2 + 1) c11 ((recC x1 sc1 se1 sm1 sp1 ++ recC y scy sey smy spy) ++ recC x0 sc0 se0 sm0 sp0), .cells g7 31 (recC y scy sey smy spy), .own (gt + 1) 9 1 scy.A scy.n scy.c (y.cmd.map sv), .own (gt + 1) 49 2 sey.A sey.n sey.c (y.env.map varC).flatten, .own (gt + 1) 70 33 smy.A smy.n smy.c (y.mat.map entC).flatten, .own (gt + 1) 70 33 spy.A spy.n spy.c (y.prod.map entC).flatten, .cells g6 31 (recC x1 sc1 se1 sm1 sp1), .own (gt + 1) 9 1 sc1.A sc1.n sc1.c (x1.cmd.map sv), .own (gt + 1) 49 2 se1.A se1.n se1.c (x1.env.map varC).flatten, .own (gt + 1) 70 33 sm1.A sm1.n sm1.c (x1.mat.map entC).flatten, .own (gt + 1) 70 33 sp1.A sp1.n sp1.c (x1.prod.map entC).flatten, tapeC gt A nl cl (at4), .cells w.heap.size 31 (recC x0 sc0 se0 sm0 sp0), .low (Go.AdR.Low.recd B x0 sc0 se0 sm0 sp0), .kept w w.heap.size] → RecGood w' w'.heap.size ⟨x1, sc1, se1, sm1, sp1⟩) := Lib.hid (fun w' h => RecOwn.good (ts := 9) (tv := 49) (te := 70) ⟨h.at_ 7 rfl, h.at_ 8 rfl, h.at_ 9 rfl, h.at_ 10 rfl⟩ HOK1.out.ok HOK1.out.cmd HOK1.out.lo HOK1.out.hi)
      have HGY2 : Hid (∀ w', All w' [.own g8 31 8 A11 (2 + 1) c11 ((recC x1 sc1 se1 sm1 sp1 ++ recC y scy sey smy spy) ++ recC x0 sc0 se0 sm0 sp0), .cells g7 31 (recC y scy sey smy spy), .own (gt + 1) 9 1 scy.A scy.n scy.c (y.cmd.map sv), .own (gt + 1) 49 2 sey.A sey.n sey.c (y.env.map varC).flatten, .own (gt + 1) 70 33 smy.A smy.n smy.c (y.mat.map entC).flatten, .own (gt + 1) 70 33 spy.A spy.n spy.c (y.prod.map entC).flatten, .cells g6 31 (recC x1 sc1 se1 sm1 sp1), .own (gt + 1) 9 1 sc1.A sc1.n sc1.c (x1.cmd.map sv), .own (gt + 1) 49 2 se1.A se1.n se1.c (x1.env.map varC).flatten, .own (gt + 1) 70 33 sm1.A sm1.n sm1.c (x1.mat.map entC).flatten, .own (gt + 1) 70 33 sp1.A sp1.n sp1.c (x1.prod.map entC).flatten, tapeC gt A nl cl (at4), .cells w.heap.size 31 (recC x0 sc0 se0 sm0 sp0), .low (Go.AdR.Low.recd B x0 sc0 se0 sm0 sp0), .kept w w.heap.size] → RecGood w' w'.heap.size ⟨y, scy, sey, smy, spy⟩) := Lib.hid (fun w' h => RecOwn.good (ts := 9) (tv := 49) (te := 70) ⟨h.at_ 2 rfl, h.at_ 3 rfl, h.at_ 4 rfl, h.at_ 5 rfl⟩ HOKY.out.ok HOKY.out.cmd HOKY.out.lo HOKY.out.hi)
      go_wp2_with fail
      go_ret
      refine ⟨A11, 3, c11, [⟨x1, sc1, se1, sm1, sp1⟩, ⟨y, scy, sey, smy, spy⟩, ⟨x0, sc0, se0, sm0, sp0⟩], rfl, by decide, rfl, ?_, ?_, (hY11.at_ 14 rfl : _ ∧ _).1⟩
      · exact Els.of (es := [RecM.cells ⟨x1, sc1, se1, sm1, sp1⟩, RecM.cells ⟨y, scy, sey, smy, spy⟩, RecM.cells ⟨x0, sc0, se0, sm0, sp0⟩]) (by have := (hY11.at_ 0 rfl : Go.Adm.Own w11 g8 31 8 A11 (2 + 1) c11 _); rw [List.append_assoc] at this; exact this) (by intro u hu; simp only [List.mem_cons, List.mem_nil_iff, or_false] at hu; rcases hu with rfl | rfl | rfl <;> rfl) rfl
      · intro r hr
        simp only [List.mem_cons, List.mem_nil_iff, or_false] at hr
        rcases hr with rfl | rfl | rfl
        · exact HG12.out _ hY11
        · exact HGY2.out _ hY11
        · have hin := (hY11.at_ 13 rfl : RecIn w11 B x0 sc0 se0 sm0 sp0 ∧ B ≤ w11.heap.size)
          exact ⟨⟨⟨hin.1.cmd.rd.mono hin.2, hin.1.cmd.small⟩, hin.1.env.mono hin.2, hin.1.mat.mono hin.2, hin.1.prod.mono hin.2⟩, HOK9.out, HR.out.lo, HR.out.hi⟩
  · have hl6 := Cells.lt (hW6.at_ 10 rfl : Cells w6 gt _ _)
    have hl6b := Cells.lt (hW6.at_ 0 rfl)
    go_upto_region 19 with (first
      | (refine wl_build rfl 49 [(0, .const (.string (⟨#[98]⟩ : ByteArray)))] rfl _ _ #[(0, 1), (1, 1)] (varC ⟨(⟨#[98]⟩ : ByteArray), ByteArray.empty⟩).toArray zero_var Tryz.underlying49 (fun w => by kernel_rfl) ?_ ?_; exact fill_var1 _)
      | (refine wl_build rfl 49 [(0, .const (.string (⟨#[97]⟩ : ByteArray)))] rfl _ _ #[(0, 1), (1, 1)] (varC ⟨(⟨#[97]⟩ : ByteArray), ByteArray.empty⟩).toArray zero_var Tryz.underlying49 (fun w => by kernel_rfl) ?_ ?_; exact fill_var1 _)
      | (refine wl_lit2 el_var2 rfl (.tmp 47) (.tmp 48) rfl (varC ⟨(⟨#[98]⟩ : ByteArray), ByteArray.empty⟩) (varC ⟨(⟨#[97]⟩ : ByteArray), ByteArray.empty⟩) rfl rfl rfl rfl (by decide) ?_; have hX10 := (hW6.alloc (.cells (varC ⟨(⟨#[98]⟩ : ByteArray), ByteArray.empty⟩ ++ varC ⟨(⟨#[97]⟩ : ByteArray), ByteArray.empty⟩).toArray 49)).cons (r := .own w.heap.size 49 2 (some ⟨w6.heap.size, 0, none⟩) 2 2 (varC ⟨(⟨#[98]⟩ : ByteArray), ByteArray.empty⟩ ++ varC ⟨(⟨#[97]⟩ : ByteArray), ByteArray.empty⟩)) (Go.Adm.Own.lit w6 _ 2 (by omega) (by decide) rfl); obtain ⟨g5, hg5⟩ : ∃ g, g = w6.heap.size := ⟨_, rfl⟩; rw [← hg5] at hX10 hl6 hl6b ⊢; refine wl_gen hX10 ?_; clear hX10 hW6 hg5; intro w9 hW9; have c5 := cell_of (hW9.at_ 1 rfl) (i := 5) rfl; have f5 := Cells.frozen (hW9.at_ 1 rfl) 5))
    have hS := All.store hW9 1 rfl 5 (.slice (some ⟨g5, 0, none⟩) 2 2) ⟨fun g e => .inr (by injection e with e; subst e; exact own_ne_cells (hW9.at_ 0 rfl) (hW9.at_ 1 rfl) (by decide)), fun g e => .inr (by injection e with e; subst e; exact own_ne_cells (hW9.at_ 2 rfl) (hW9.at_ 1 rfl) (by decide)), fun g e => .inr (by injection e with e; subst e; exact own_ne_cells (hW9.at_ 3 rfl) (hW9.at_ 1 rfl) (by decide)), fun g e => .inr (by injection e with e; subst e; exact own_ne_cells (hW9.at_ 4 rfl) (hW9.at_ 1 rfl) (by decide)), fun g e => .inr (by injection e with e; subst e; exact own_ne_cells (hW9.at_ 5 rfl) (hW9.at_ 1 rfl) (by decide)), fun e => by injection e with e; omega, fun g e => .inr (by injection e with e; subst e; exact own_ne_cells (hW9.at_ 7 rfl) (hW9.at_ 1 rfl) (by decide)), fun g e => .inr (by injection e with e; subst e; exact own_ne_cells (hW9.at_ 8 rfl) (hW9.at_ 1 rfl) (by decide)), fun g e => .inr (by injection e with e; subst e; exact own_ne_cells (hW9.at_ 9 rfl) (hW9.at_ 1 rfl) (by decide)), fun g e => .inr (by injection e with e; subst e; exact own_ne_cells (hW9.at_ 10 rfl) (hW9.at_ 1 rfl) (by decide)), fun e => by injection e with e; omega, fun e => by injection e with e; omega, fun g e => (by injection e with e; subst e; show B ≤ _; omega), fun g e => by injection e with e; omega, trivial⟩
    simp only [List.set_cons_succ, List.set_cons_zero] at hS
    clear hW9
    have hS0 : Go.Adm.Own _ g5 49 2 (some ⟨g5, 0, none⟩) 2 2 _ := own_self (hS.at_ 0 rfl)
    obtain ⟨y, hy⟩ : ∃ y : Rec, y = ⟨x2.run, x2.scope, x2.step, x2.t, x2.cmd, [⟨(⟨#[98]⟩ : ByteArray), ByteArray.empty⟩, ⟨(⟨#[97]⟩ : ByteArray), ByteArray.empty⟩], x2.mat, x2.prod⟩ := ⟨_, rfl⟩
    obtain ⟨scy, hscy⟩ : ∃ s : Sl, s = sc2 := ⟨_, rfl⟩
    obtain ⟨sey, hsey⟩ : ∃ s : Sl, s = (⟨some ⟨g5, 0, none⟩, 2, 2⟩ : Sl) := ⟨_, rfl⟩
    obtain ⟨smy, hsmy⟩ : ∃ s : Sl, s = sm2 := ⟨_, rfl⟩
    obtain ⟨spy, hspy⟩ : ∃ s : Sl, s = sp2 := ⟨_, rfl⟩
    obtain ⟨at4, hat4⟩ : ∃ k, k = at3 := ⟨_, rfl⟩
    have HOKY : Hid (RecFine y) := Lib.hid (by
      rw [hy]
      exact ⟨⟨HOK2.out.ok.run, HOK2.out.ok.step, HOK2.out.ok.scope, (by intro e he; simp only [List.mem_cons, List.mem_nil_iff, or_false] at he; rcases he with rfl | rfl; exact ⟨by decide, by decide⟩; exact ⟨by decide, by decide⟩), HOK2.out.ok.mat, HOK2.out.ok.prod, HOK2.out.ok.ncmd, (by show (2 : Nat) ≤ _; decide), HOK2.out.ok.nmat, HOK2.out.ok.nprod⟩, HOK2.out.cmd, HOK2.out.lo, HOK2.out.hi⟩)
    refine wp_gen (rs := [.cells g7 31 (recC y scy sey smy spy), .own (gt + 1) 9 1 scy.A scy.n scy.c (y.cmd.map sv), .own (gt + 1) 49 2 sey.A sey.n sey.c (y.env.map varC).flatten, .own (gt + 1) 70 33 smy.A smy.n smy.c (y.mat.map entC).flatten, .own (gt + 1) 70 33 spy.A spy.n spy.c (y.prod.map entC).flatten, .cells g6 31 (recC x1 sc1 se1 sm1 sp1), .own (gt + 1) 9 1 sc1.A sc1.n sc1.c (x1.cmd.map sv), .own (gt + 1) 49 2 se1.A se1.n se1.c (x1.env.map varC).flatten, .own (gt + 1) 70 33 sm1.A sm1.n sm1.c (x1.mat.map entC).flatten, .own (gt + 1) 70 33 sp1.A sp1.n sp1.c (x1.prod.map entC).flatten, tapeC gt A nl cl (at4), .cells w.heap.size 31 (recC x0 sc0 se0 sm0 sp0), .low (Go.AdR.Low.recd B x0 sc0 se0 sm0 sp0), .kept w w.heap.size]) (by rw [hy, hscy, hsey, hsmy, hspy, hat4]; exact ⟨hS.at_ 1 rfl, hS.at_ 2 rfl, hS0.less (by omega), hS.at_ 4 rfl, hS.at_ 5 rfl, hS.at_ 6 rfl, hS.at_ 7 rfl, hS.at_ 8 rfl, hS.at_ 9 rfl, hS.at_ 10 rfl, hS.at_ 11 rfl, hS.at_ 12 rfl, hS.at_ 13 rfl, hS.at_ 14 rfl, trivial⟩) ?_
    clear hy hscy hsey hsmy hspy hat4 hS hS0
    intro wY hY
    have hl7 := Cells.lt (hY.at_ 0 rfl)
    have hl6 := Cells.lt (hY.at_ 5 rfl)
    have hl0 := Cells.lt (hY.at_ 11 rfl)
    have hlt := Cells.lt (hY.at_ 10 rfl : Cells wY gt _ _)
    go_upto_region 20 with (first
      | (refine wl_load_any rfl 31 (.tmp 6) rfl ⟨g6, 0, none⟩ rfl (recC x1 sc1 se1 sm1 sp1) _ (cell_all (hY.at_ 5 rfl)) Tryz.underlying31 rfl (by kernel_rfl) ?_)
      | (refine wl_load_any rfl 31 (.tmp 7) rfl ⟨g7, 0, none⟩ rfl (recC y scy sey smy spy) _ (cell_all (hY.at_ 0 rfl)) Tryz.underlying31 rfl (by kernel_rfl) ?_)
      | (refine wl_lit2 el_recd rfl (.tmp 60) (.tmp 61) rfl (recC x1 sc1 se1 sm1 sp1) (recC y scy sey smy spy) rfl rfl rfl rfl (by decide) ?_; have hY2 := (hY.alloc (.cells (recC x1 sc1 se1 sm1 sp1 ++ recC y scy sey smy spy).toArray 31)).cons (r := .own wY.heap.size 31 8 (some ⟨wY.heap.size, 0, none⟩) 2 2 (recC x1 sc1 se1 sm1 sp1 ++ recC y scy sey smy spy)) (Go.Adm.Own.lit wY _ 2 (Nat.le_refl _) (by decide) rfl); obtain ⟨g8, hg8⟩ : ∃ g, g = wY.heap.size := ⟨_, rfl⟩; rw [← hg8] at hY2 hl7 hl6 hl0 hlt ⊢; clear hg8; refine wl_gen hY2 ?_; clear hY2 hY; intro w8 hY))
    have hin := (hY.at_ 13 rfl : RecIn w8 B x0 sc0 se0 sm0 sp0 ∧ B ≤ w8.heap.size)
    have hlt8 : w.heap.size ≤ w8.heap.size := (hY.at_ 14 rfl : _ ∧ _).2
    have hlight := light_any w8 B x0 sc0 se0 sm0 sp0 hin.1 HR.out hin.2
    go_upto_region 20 with (fail)
    go_wp2_with (first
      | (refine wl_load_any rfl 31 (.tmp 2) rfl ⟨w.heap.size, 0, none⟩ rfl (recC x0 sc0 se0 sm0 sp0) _ (cell_all (hY.at_ 12 rfl)) Tryz.underlying31 rfl (by kernel_rfl) ?_)
      | fail)
    refine hlight.mono ?_
    rintro e w9 ⟨b, rfl, hb9, hok0⟩
    have HOK0 := Lib.hid hok0
    have hY9 := hY.call hb9
    clear hY hb9 hlight hok0 hin
    have HG1 : Hid (∀ w', All w' [.own g8 31 8 (some ⟨g8, 0, none⟩) 2 2 (recC x1 sc1 se1 sm1 sp1 ++ recC y scy sey smy spy), .cells g7 31 (recC y scy sey smy spy), .own (gt + 1) 9 1 scy.A scy.n scy.c (y.cmd.map sv), .own (gt + 1) 49 2 sey.A sey.n sey.c (y.env.map varC).flatten, .own (gt + 1) 70 33 smy.A smy.n smy.c (y.mat.map entC).flatten, .own (gt + 1) 70 33 spy.A spy.n spy.c (y.prod.map entC).flatten, .cells g6 31 (recC x1 sc1 se1 sm1 sp1), .own (gt + 1) 9 1 sc1.A sc1.n sc1.c (x1.cmd.map sv), .own (gt + 1) 49 2 se1.A se1.n se1.c (x1.env.map varC).flatten, .own (gt + 1) 70 33 sm1.A sm1.n sm1.c (x1.mat.map entC).flatten, .own (gt + 1) 70 33 sp1.A sp1.n sp1.c (x1.prod.map entC).flatten, tapeC gt A nl cl (at4), .cells w.heap.size 31 (recC x0 sc0 se0 sm0 sp0), .low (Go.AdR.Low.recd B x0 sc0 se0 sm0 sp0), .kept w w.heap.size] → RecGood w' w'.heap.size ⟨x1, sc1, se1, sm1, sp1⟩) := Lib.hid (fun w' h => RecOwn.good (ts := 9) (tv := 49) (te := 70) ⟨h.at_ 7 rfl, h.at_ 8 rfl, h.at_ 9 rfl, h.at_ 10 rfl⟩ HOK1.out.ok HOK1.out.cmd HOK1.out.lo HOK1.out.hi)
    have HGY : Hid (∀ w', All w' [.own g8 31 8 (some ⟨g8, 0, none⟩) 2 2 (recC x1 sc1 se1 sm1 sp1 ++ recC y scy sey smy spy), .cells g7 31 (recC y scy sey smy spy), .own (gt + 1) 9 1 scy.A scy.n scy.c (y.cmd.map sv), .own (gt + 1) 49 2 sey.A sey.n sey.c (y.env.map varC).flatten, .own (gt + 1) 70 33 smy.A smy.n smy.c (y.mat.map entC).flatten, .own (gt + 1) 70 33 spy.A spy.n spy.c (y.prod.map entC).flatten, .cells g6 31 (recC x1 sc1 se1 sm1 sp1), .own (gt + 1) 9 1 sc1.A sc1.n sc1.c (x1.cmd.map sv), .own (gt + 1) 49 2 se1.A se1.n se1.c (x1.env.map varC).flatten, .own (gt + 1) 70 33 sm1.A sm1.n sm1.c (x1.mat.map entC).flatten, .own (gt + 1) 70 33 sp1.A sp1.n sp1.c (x1.prod.map entC).flatten, tapeC gt A nl cl (at4), .cells w.heap.size 31 (recC x0 sc0 se0 sm0 sp0), .low (Go.AdR.Low.recd B x0 sc0 se0 sm0 sp0), .kept w w.heap.size] → RecGood w' w'.heap.size ⟨y, scy, sey, smy, spy⟩) := Lib.hid (fun w' h => RecOwn.good (ts := 9) (tv := 49) (te := 70) ⟨h.at_ 2 rfl, h.at_ 3 rfl, h.at_ 4 rfl, h.at_ 5 rfl⟩ HOKY.out.ok HOKY.out.cmd HOKY.out.lo HOKY.out.hi)
    cases b with
    | false =>
      go_wp2_with fail
      go_ret
      refine ⟨some ⟨g8, 0, none⟩, 2, 2, [⟨x1, sc1, se1, sm1, sp1⟩, ⟨y, scy, sey, smy, spy⟩], rfl, by decide, rfl, ?_, ?_, (hY9.at_ 14 rfl : _ ∧ _).1⟩
      · exact Els.of (hY9.at_ 0 rfl) (by intro u hu; simp only [List.map_cons, List.map_nil, List.mem_cons, List.mem_nil_iff, or_false] at hu; rcases hu with rfl | rfl <;> rfl) rfl
      · intro r hr
        simp only [List.mem_cons, List.mem_nil_iff, or_false] at hr
        rcases hr with rfl | rfl
        · exact HG1.out _ hY9
        · exact HGY.out _ hY9
    | true =>
      have HOK9 : Hid (RecOk x0) := Lib.hid (HOK0.out rfl)
      clear HOK0
      have hl9 := Cells.lt (hY9.at_ 12 rfl)
      go_upto_region 22 with (first
        | (refine wl_load_any rfl 31 (.tmp 2) rfl ⟨w.heap.size, 0, none⟩ rfl (recC x0 sc0 se0 sm0 sp0) _ (cell_all (hY9.at_ 12 rfl)) Tryz.underlying31 rfl (by kernel_rfl) ?_)
        | (refine wl_lit1 el_recd rfl (.tmp 66) rfl (recC x0 sc0 se0 sm0 sp0) rfl rfl (by decide) ?_; have hY10 := hY9.alloc (.cells (recC x0 sc0 se0 sm0 sp0).toArray 31); have hrd10 := Rd.lit (size := 8) w9 (recC x0 sc0 se0 sm0 sp0).toArray 31 1 rfl; obtain ⟨w10, hw10⟩ : ∃ u, u = w9.alloc (.cells (recC x0 sc0 se0 sm0 sp0).toArray 31) := ⟨_, rfl⟩; rw [← hw10] at hY10 hrd10 ⊢; clear hw10)
        | (refine wl_app_at el_recd hY10 0 rfl (.tmp 65) (.tmp 67) rfl g8 (some ⟨g8, 0, none⟩) 2 2 (recC x1 sc1 se1 sm1 sp1 ++ recC y scy sey smy spy) rfl rfl _ _ 1 1 (recC x0 sc0 se0 sm0 sp0) rfl hrd10 ?uq1c4 ?uq2c4 ?uq3c4 ?uq4c4 ?uq5c4; go_must (
            case uq1c4 => exact recC_one _ _ _ _ _
            case uq2c4 => decide
            case uq3c4 => exact Nat.le_of_lt ((hY10.at_ 0 rfl : Go.Adm.Own w10 g8 31 8 (some ⟨g8, 0, none⟩) 2 2 _).lt rfl).2
            case uq4c4 =>
              intro g hg he
              obtain rfl : g8 = g := (by simpa [Value.ownBlock] using he)
              have hown := (hY10.at_ 0 rfl : Go.Adm.Own w10 g8 31 8 (some ⟨g8, 0, none⟩) 2 2 _)
              exact ⟨fun e => by injection e with e; omega, fun g' e => .inr (by injection e with e; subst e; exact own_ne_own (hY10.at_ 2 rfl) hown (by decide) rfl), fun g' e => .inr (by injection e with e; subst e; exact own_ne_own (hY10.at_ 3 rfl) hown (by decide) rfl), fun g' e => .inr (by injection e with e; subst e; exact own_ne_own (hY10.at_ 4 rfl) hown (by decide) rfl), fun g' e => .inr (by injection e with e; subst e; exact own_ne_own (hY10.at_ 5 rfl) hown (by decide) rfl), fun e => by injection e with e; omega, fun g' e => .inr (by injection e with e; subst e; exact own_ne_own (hY10.at_ 7 rfl) hown (by decide) rfl), fun g' e => .inr (by injection e with e; subst e; exact own_ne_own (hY10.at_ 8 rfl) hown (by decide) rfl), fun g' e => .inr (by injection e with e; subst e; exact own_ne_own (hY10.at_ 9 rfl) hown (by decide) rfl), fun g' e => .inr (by injection e with e; subst e; exact own_ne_own (hY10.at_ 10 rfl) hown (by decide) rfl), fun e => by injection e with e; omega, fun e => by injection e with e; omega, fun g' e => (by injection e with e; subst e; show B ≤ _; omega), fun g' e => by injection e with e; omega, trivial⟩
            intro A11 c11 w11 hY11 hs11)))
      simp only [List.set_cons_zero] at hY11
      have HG12 : Hid (∀ w', All w' [.own g8 31 8 A11 (2 + 1) c11 ((recC x1 sc1 se1 sm1 sp1 ++ recC y scy sey smy spy) ++ recC x0 sc0 se0 sm0 sp0), .cells g7 31 (recC y scy sey smy spy), .own (gt + 1) 9 1 scy.A scy.n scy.c (y.cmd.map sv), .own (gt + 1) 49 2 sey.A sey.n sey.c (y.env.map varC).flatten, .own (gt + 1) 70 33 smy.A smy.n smy.c (y.mat.map entC).flatten, .own (gt + 1) 70 33 spy.A spy.n spy.c (y.prod.map entC).flatten, .cells g6 31 (recC x1 sc1 se1 sm1 sp1), .own (gt + 1) 9 1 sc1.A sc1.n sc1.c (x1.cmd.map sv), .own (gt + 1) 49 2 se1.A se1.n se1.c (x1.env.map varC).flatten, .own (gt + 1) 70 33 sm1.A sm1.n sm1.c (x1.mat.map entC).flatten, .own (gt + 1) 70 33 sp1.A sp1.n sp1.c (x1.prod.map entC).flatten, tapeC gt A nl cl (at4), .cells w.heap.size 31 (recC x0 sc0 se0 sm0 sp0), .low (Go.AdR.Low.recd B x0 sc0 se0 sm0 sp0), .kept w w.heap.size] → RecGood w' w'.heap.size ⟨x1, sc1, se1, sm1, sp1⟩) := Lib.hid (fun w' h => RecOwn.good (ts := 9) (tv := 49) (te := 70) ⟨h.at_ 7 rfl, h.at_ 8 rfl, h.at_ 9 rfl, h.at_ 10 rfl⟩ HOK1.out.ok HOK1.out.cmd HOK1.out.lo HOK1.out.hi)
      have HGY2 : Hid (∀ w', All w' [.own g8 31 8 A11 (2 + 1) c11 ((recC x1 sc1 se1 sm1 sp1 ++ recC y scy sey smy spy) ++ recC x0 sc0 se0 sm0 sp0), .cells g7 31 (recC y scy sey smy spy), .own (gt + 1) 9 1 scy.A scy.n scy.c (y.cmd.map sv), .own (gt + 1) 49 2 sey.A sey.n sey.c (y.env.map varC).flatten, .own (gt + 1) 70 33 smy.A smy.n smy.c (y.mat.map entC).flatten, .own (gt + 1) 70 33 spy.A spy.n spy.c (y.prod.map entC).flatten, .cells g6 31 (recC x1 sc1 se1 sm1 sp1), .own (gt + 1) 9 1 sc1.A sc1.n sc1.c (x1.cmd.map sv), .own (gt + 1) 49 2 se1.A se1.n se1.c (x1.env.map varC).flatten, .own (gt + 1) 70 33 sm1.A sm1.n sm1.c (x1.mat.map entC).flatten, .own (gt + 1) 70 33 sp1.A sp1.n sp1.c (x1.prod.map entC).flatten, tapeC gt A nl cl (at4), .cells w.heap.size 31 (recC x0 sc0 se0 sm0 sp0), .low (Go.AdR.Low.recd B x0 sc0 se0 sm0 sp0), .kept w w.heap.size] → RecGood w' w'.heap.size ⟨y, scy, sey, smy, spy⟩) := Lib.hid (fun w' h => RecOwn.good (ts := 9) (tv := 49) (te := 70) ⟨h.at_ 2 rfl, h.at_ 3 rfl, h.at_ 4 rfl, h.at_ 5 rfl⟩ HOKY.out.ok HOKY.out.cmd HOKY.out.lo HOKY.out.hi)
      go_wp2_with fail
      go_ret
      refine ⟨A11, 3, c11, [⟨x1, sc1, se1, sm1, sp1⟩, ⟨y, scy, sey, smy, spy⟩, ⟨x0, sc0, se0, sm0, sp0⟩], rfl, by decide, rfl, ?_, ?_, (hY11.at_ 14 rfl : _ ∧ _).1⟩
      · exact Els.of (es := [RecM.cells ⟨x1, sc1, se1, sm1, sp1⟩, RecM.cells ⟨y, scy, sey, smy, spy⟩, RecM.cells ⟨x0, sc0, se0, sm0, sp0⟩]) (by have := (hY11.at_ 0 rfl : Go.Adm.Own w11 g8 31 8 A11 (2 + 1) c11 _); rw [List.append_assoc] at this; exact this) (by intro u hu; simp only [List.mem_cons, List.mem_nil_iff, or_false] at hu; rcases hu with rfl | rfl | rfl <;> rfl) rfl
      · intro r hr
        simp only [List.mem_cons, List.mem_nil_iff, or_false] at hr
        rcases hr with rfl | rfl | rfl
        · exact HG12.out _ hY11
        · exact HGY2.out _ hY11
        · have hin := (hY11.at_ 13 rfl : RecIn w11 B x0 sc0 se0 sm0 sp0 ∧ B ≤ w11.heap.size)
          exact ⟨⟨⟨hin.1.cmd.rd.mono hin.2, hin.1.cmd.small⟩, hin.1.env.mono hin.2, hin.1.mat.mono hin.2, hin.1.prod.mono hin.2⟩, HOK9.out, HR.out.lo, HR.out.hi⟩
  · have c2 := cell_of (hW6.at_ 0 rfl) (i := 2) rfl
    have f2 := Cells.frozen (hW6.at_ 0 rfl) 2
    go_upto_region 19 with (fail)
    obtain ⟨y, hy⟩ : ∃ y : Rec, y = ⟨x2.run, x2.scope, (⟨#[]⟩ : ByteArray), x2.t, x2.cmd, x2.env, x2.mat, x2.prod⟩ := ⟨_, rfl⟩
    obtain ⟨scy, hscy⟩ : ∃ s : Sl, s = sc2 := ⟨_, rfl⟩
    obtain ⟨sey, hsey⟩ : ∃ s : Sl, s = se2 := ⟨_, rfl⟩
    obtain ⟨smy, hsmy⟩ : ∃ s : Sl, s = sm2 := ⟨_, rfl⟩
    obtain ⟨spy, hspy⟩ : ∃ s : Sl, s = sp2 := ⟨_, rfl⟩
    obtain ⟨at4, hat4⟩ : ∃ k, k = at3 := ⟨_, rfl⟩
    have HOKY : Hid (RecFine y) := Lib.hid (by
      rw [hy]
      exact ⟨⟨HOK2.out.ok.run, (by decide : ((⟨#[]⟩ : ByteArray) : ByteArray).size ≤ 140737488355328), HOK2.out.ok.scope, HOK2.out.ok.env, HOK2.out.ok.mat, HOK2.out.ok.prod, HOK2.out.ok.ncmd, HOK2.out.ok.nenv, HOK2.out.ok.nmat, HOK2.out.ok.nprod⟩, HOK2.out.cmd, HOK2.out.lo, HOK2.out.hi⟩)
    refine wp_gen (rs := [.cells g7 31 (recC y scy sey smy spy), .own (gt + 1) 9 1 scy.A scy.n scy.c (y.cmd.map sv), .own (gt + 1) 49 2 sey.A sey.n sey.c (y.env.map varC).flatten, .own (gt + 1) 70 33 smy.A smy.n smy.c (y.mat.map entC).flatten, .own (gt + 1) 70 33 spy.A spy.n spy.c (y.prod.map entC).flatten, .cells g6 31 (recC x1 sc1 se1 sm1 sp1), .own (gt + 1) 9 1 sc1.A sc1.n sc1.c (x1.cmd.map sv), .own (gt + 1) 49 2 se1.A se1.n se1.c (x1.env.map varC).flatten, .own (gt + 1) 70 33 sm1.A sm1.n sm1.c (x1.mat.map entC).flatten, .own (gt + 1) 70 33 sp1.A sp1.n sp1.c (x1.prod.map entC).flatten, tapeC gt A nl cl (at4), .cells w.heap.size 31 (recC x0 sc0 se0 sm0 sp0), .low (Go.AdR.Low.recd B x0 sc0 se0 sm0 sp0), .kept w w.heap.size]) (by rw [hy, hscy, hsey, hsmy, hspy, hat4]; exact All.store hW6 0 rfl 2 (.string (⟨#[]⟩ : ByteArray)) ⟨fun g e => .inr (by injection e with e; subst e; exact own_ne_cells (hW6.at_ 1 rfl) (hW6.at_ 0 rfl) (by decide)), fun g e => .inr (by injection e with e; subst e; exact own_ne_cells (hW6.at_ 2 rfl) (hW6.at_ 0 rfl) (by decide)), fun g e => .inr (by injection e with e; subst e; exact own_ne_cells (hW6.at_ 3 rfl) (hW6.at_ 0 rfl) (by decide)), fun g e => .inr (by injection e with e; subst e; exact own_ne_cells (hW6.at_ 4 rfl) (hW6.at_ 0 rfl) (by decide)), fun e => by injection e with e; omega, fun g e => .inr (by injection e with e; subst e; exact own_ne_cells (hW6.at_ 6 rfl) (hW6.at_ 0 rfl) (by decide)), fun g e => .inr (by injection e with e; subst e; exact own_ne_cells (hW6.at_ 7 rfl) (hW6.at_ 0 rfl) (by decide)), fun g e => .inr (by injection e with e; subst e; exact own_ne_cells (hW6.at_ 8 rfl) (hW6.at_ 0 rfl) (by decide)), fun g e => .inr (by injection e with e; subst e; exact own_ne_cells (hW6.at_ 9 rfl) (hW6.at_ 0 rfl) (by decide)), fun e => by injection e with e; omega, fun e => by injection e with e; omega, fun g e => (by injection e with e; subst e; show B ≤ _; omega), fun g e => by injection e with e; omega, trivial⟩) ?_
    clear hy hscy hsey hsmy hspy hat4 hW6
    intro wY hY
    have hl7 := Cells.lt (hY.at_ 0 rfl)
    have hl6 := Cells.lt (hY.at_ 5 rfl)
    have hl0 := Cells.lt (hY.at_ 11 rfl)
    have hlt := Cells.lt (hY.at_ 10 rfl : Cells wY gt _ _)
    go_upto_region 20 with (first
      | (refine wl_load_any rfl 31 (.tmp 6) rfl ⟨g6, 0, none⟩ rfl (recC x1 sc1 se1 sm1 sp1) _ (cell_all (hY.at_ 5 rfl)) Tryz.underlying31 rfl (by kernel_rfl) ?_)
      | (refine wl_load_any rfl 31 (.tmp 7) rfl ⟨g7, 0, none⟩ rfl (recC y scy sey smy spy) _ (cell_all (hY.at_ 0 rfl)) Tryz.underlying31 rfl (by kernel_rfl) ?_)
      | (refine wl_lit2 el_recd rfl (.tmp 60) (.tmp 61) rfl (recC x1 sc1 se1 sm1 sp1) (recC y scy sey smy spy) rfl rfl rfl rfl (by decide) ?_; have hY2 := (hY.alloc (.cells (recC x1 sc1 se1 sm1 sp1 ++ recC y scy sey smy spy).toArray 31)).cons (r := .own wY.heap.size 31 8 (some ⟨wY.heap.size, 0, none⟩) 2 2 (recC x1 sc1 se1 sm1 sp1 ++ recC y scy sey smy spy)) (Go.Adm.Own.lit wY _ 2 (Nat.le_refl _) (by decide) rfl); obtain ⟨g8, hg8⟩ : ∃ g, g = wY.heap.size := ⟨_, rfl⟩; rw [← hg8] at hY2 hl7 hl6 hl0 hlt ⊢; clear hg8; refine wl_gen hY2 ?_; clear hY2 hY; intro w8 hY))
    have hin := (hY.at_ 13 rfl : RecIn w8 B x0 sc0 se0 sm0 sp0 ∧ B ≤ w8.heap.size)
    have hlt8 : w.heap.size ≤ w8.heap.size := (hY.at_ 14 rfl : _ ∧ _).2
    have hlight := light_any w8 B x0 sc0 se0 sm0 sp0 hin.1 HR.out hin.2
    go_upto_region 20 with (fail)
    go_wp2_with (first
      | (refine wl_load_any rfl 31 (.tmp 2) rfl ⟨w.heap.size, 0, none⟩ rfl (recC x0 sc0 se0 sm0 sp0) _ (cell_all (hY.at_ 12 rfl)) Tryz.underlying31 rfl (by kernel_rfl) ?_)
      | fail)
    refine hlight.mono ?_
    rintro e w9 ⟨b, rfl, hb9, hok0⟩
    have HOK0 := Lib.hid hok0
    have hY9 := hY.call hb9
    clear hY hb9 hlight hok0 hin
    have HG1 : Hid (∀ w', All w' [.own g8 31 8 (some ⟨g8, 0, none⟩) 2 2 (recC x1 sc1 se1 sm1 sp1 ++ recC y scy sey smy spy), .cells g7 31 (recC y scy sey smy spy), .own (gt + 1) 9 1 scy.A scy.n scy.c (y.cmd.map sv), .own (gt + 1) 49 2 sey.A sey.n sey.c (y.env.map varC).flatten, .own (gt + 1) 70 33 smy.A smy.n smy.c (y.mat.map entC).flatten, .own (gt + 1) 70 33 spy.A spy.n spy.c (y.prod.map entC).flatten, .cells g6 31 (recC x1 sc1 se1 sm1 sp1), .own (gt + 1) 9 1 sc1.A sc1.n sc1.c (x1.cmd.map sv), .own (gt + 1) 49 2 se1.A se1.n se1.c (x1.env.map varC).flatten, .own (gt + 1) 70 33 sm1.A sm1.n sm1.c (x1.mat.map entC).flatten, .own (gt + 1) 70 33 sp1.A sp1.n sp1.c (x1.prod.map entC).flatten, tapeC gt A nl cl (at4), .cells w.heap.size 31 (recC x0 sc0 se0 sm0 sp0), .low (Go.AdR.Low.recd B x0 sc0 se0 sm0 sp0), .kept w w.heap.size] → RecGood w' w'.heap.size ⟨x1, sc1, se1, sm1, sp1⟩) := Lib.hid (fun w' h => RecOwn.good (ts := 9) (tv := 49) (te := 70) ⟨h.at_ 7 rfl, h.at_ 8 rfl, h.at_ 9 rfl, h.at_ 10 rfl⟩ HOK1.out.ok HOK1.out.cmd HOK1.out.lo HOK1.out.hi)
    have HGY : Hid (∀ w', All w' [.own g8 31 8 (some ⟨g8, 0, none⟩) 2 2 (recC x1 sc1 se1 sm1 sp1 ++ recC y scy sey smy spy), .cells g7 31 (recC y scy sey smy spy), .own (gt + 1) 9 1 scy.A scy.n scy.c (y.cmd.map sv), .own (gt + 1) 49 2 sey.A sey.n sey.c (y.env.map varC).flatten, .own (gt + 1) 70 33 smy.A smy.n smy.c (y.mat.map entC).flatten, .own (gt + 1) 70 33 spy.A spy.n spy.c (y.prod.map entC).flatten, .cells g6 31 (recC x1 sc1 se1 sm1 sp1), .own (gt + 1) 9 1 sc1.A sc1.n sc1.c (x1.cmd.map sv), .own (gt + 1) 49 2 se1.A se1.n se1.c (x1.env.map varC).flatten, .own (gt + 1) 70 33 sm1.A sm1.n sm1.c (x1.mat.map entC).flatten, .own (gt + 1) 70 33 sp1.A sp1.n sp1.c (x1.prod.map entC).flatten, tapeC gt A nl cl (at4), .cells w.heap.size 31 (recC x0 sc0 se0 sm0 sp0), .low (Go.AdR.Low.recd B x0 sc0 se0 sm0 sp0), .kept w w.heap.size] → RecGood w' w'.heap.size ⟨y, scy, sey, smy, spy⟩) := Lib.hid (fun w' h => RecOwn.good (ts := 9) (tv := 49) (te := 70) ⟨h.at_ 2 rfl, h.at_ 3 rfl, h.at_ 4 rfl, h.at_ 5 rfl⟩ HOKY.out.ok HOKY.out.cmd HOKY.out.lo HOKY.out.hi)
    cases b with
    | false =>
      go_wp2_with fail
      go_ret
      refine ⟨some ⟨g8, 0, none⟩, 2, 2, [⟨x1, sc1, se1, sm1, sp1⟩, ⟨y, scy, sey, smy, spy⟩], rfl, by decide, rfl, ?_, ?_, (hY9.at_ 14 rfl : _ ∧ _).1⟩
      · exact Els.of (hY9.at_ 0 rfl) (by intro u hu; simp only [List.map_cons, List.map_nil, List.mem_cons, List.mem_nil_iff, or_false] at hu; rcases hu with rfl | rfl <;> rfl) rfl
      · intro r hr
        simp only [List.mem_cons, List.mem_nil_iff, or_false] at hr
        rcases hr with rfl | rfl
        · exact HG1.out _ hY9
        · exact HGY.out _ hY9
    | true =>
      have HOK9 : Hid (RecOk x0) := Lib.hid (HOK0.out rfl)
      clear HOK0
      have hl9 := Cells.lt (hY9.at_ 12 rfl)
      go_upto_region 22 with (first
        | (refine wl_load_any rfl 31 (.tmp 2) rfl ⟨w.heap.size, 0, none⟩ rfl (recC x0 sc0 se0 sm0 sp0) _ (cell_all (hY9.at_ 12 rfl)) Tryz.underlying31 rfl (by kernel_rfl) ?_)
        | (refine wl_lit1 el_recd rfl (.tmp 66) rfl (recC x0 sc0 se0 sm0 sp0) rfl rfl (by decide) ?_; have hY10 := hY9.alloc (.cells (recC x0 sc0 se0 sm0 sp0).toArray 31); have hrd10 := Rd.lit (size := 8) w9 (recC x0 sc0 se0 sm0 sp0).toArray 31 1 rfl; obtain ⟨w10, hw10⟩ : ∃ u, u = w9.alloc (.cells (recC x0 sc0 se0 sm0 sp0).toArray 31) := ⟨_, rfl⟩; rw [← hw10] at hY10 hrd10 ⊢; clear hw10)
        | (refine wl_app_at el_recd hY10 0 rfl (.tmp 65) (.tmp 67) rfl g8 (some ⟨g8, 0, none⟩) 2 2 (recC x1 sc1 se1 sm1 sp1 ++ recC y scy sey smy spy) rfl rfl _ _ 1 1 (recC x0 sc0 se0 sm0 sp0) rfl hrd10 ?uq1c5 ?uq2c5 ?uq3c5 ?uq4c5 ?uq5c5; go_must (
            case uq1c5 => exact recC_one _ _ _ _ _
            case uq2c5 => decide
            case uq3c5 => exact Nat.le_of_lt ((hY10.at_ 0 rfl : Go.Adm.Own w10 g8 31 8 (some ⟨g8, 0, none⟩) 2 2 _).lt rfl).2
            case uq4c5 =>
              intro g hg he
              obtain rfl : g8 = g := (by simpa [Value.ownBlock] using he)
              have hown := (hY10.at_ 0 rfl : Go.Adm.Own w10 g8 31 8 (some ⟨g8, 0, none⟩) 2 2 _)
              exact ⟨fun e => by injection e with e; omega, fun g' e => .inr (by injection e with e; subst e; exact own_ne_own (hY10.at_ 2 rfl) hown (by decide) rfl), fun g' e => .inr (by injection e with e; subst e; exact own_ne_own (hY10.at_ 3 rfl) hown (by decide) rfl), fun g' e => .inr (by injection e with e; subst e; exact own_ne_own (hY10.at_ 4 rfl) hown (by decide) rfl), fun g' e => .inr (by injection e with e; subst e; exact own_ne_own (hY10.at_ 5 rfl) hown (by decide) rfl), fun e => by injection e with e; omega, fun g' e => .inr (by injection e with e; subst e; exact own_ne_own (hY10.at_ 7 rfl) hown (by decide) rfl), fun g' e => .inr (by injection e with e; subst e; exact own_ne_own (hY10.at_ 8 rfl) hown (by decide) rfl), fun g' e => .inr (by injection e with e; subst e; exact own_ne_own (hY10.at_ 9 rfl) hown (by decide) rfl), fun g' e => .inr (by injection e with e; subst e; exact own_ne_own (hY10.at_ 10 rfl) hown (by decide) rfl), fun e => by injection e with e; omega, fun e => by injection e with e; omega, fun g' e => (by injection e with e; subst e; show B ≤ _; omega), fun g' e => by injection e with e; omega, trivial⟩
            intro A11 c11 w11 hY11 hs11)))
      simp only [List.set_cons_zero] at hY11
      have HG12 : Hid (∀ w', All w' [.own g8 31 8 A11 (2 + 1) c11 ((recC x1 sc1 se1 sm1 sp1 ++ recC y scy sey smy spy) ++ recC x0 sc0 se0 sm0 sp0), .cells g7 31 (recC y scy sey smy spy), .own (gt + 1) 9 1 scy.A scy.n scy.c (y.cmd.map sv), .own (gt + 1) 49 2 sey.A sey.n sey.c (y.env.map varC).flatten, .own (gt + 1) 70 33 smy.A smy.n smy.c (y.mat.map entC).flatten, .own (gt + 1) 70 33 spy.A spy.n spy.c (y.prod.map entC).flatten, .cells g6 31 (recC x1 sc1 se1 sm1 sp1), .own (gt + 1) 9 1 sc1.A sc1.n sc1.c (x1.cmd.map sv), .own (gt + 1) 49 2 se1.A se1.n se1.c (x1.env.map varC).flatten, .own (gt + 1) 70 33 sm1.A sm1.n sm1.c (x1.mat.map entC).flatten, .own (gt + 1) 70 33 sp1.A sp1.n sp1.c (x1.prod.map entC).flatten, tapeC gt A nl cl (at4), .cells w.heap.size 31 (recC x0 sc0 se0 sm0 sp0), .low (Go.AdR.Low.recd B x0 sc0 se0 sm0 sp0), .kept w w.heap.size] → RecGood w' w'.heap.size ⟨x1, sc1, se1, sm1, sp1⟩) := Lib.hid (fun w' h => RecOwn.good (ts := 9) (tv := 49) (te := 70) ⟨h.at_ 7 rfl, h.at_ 8 rfl, h.at_ 9 rfl, h.at_ 10 rfl⟩ HOK1.out.ok HOK1.out.cmd HOK1.out.lo HOK1.out.hi)
      have HGY2 : Hid (∀ w', All w' [.own g8 31 8 A11 (2 + 1) c11 ((recC x1 sc1 se1 sm1 sp1 ++ recC y scy sey smy spy) ++ recC x0 sc0 se0 sm0 sp0), .cells g7 31 (recC y scy sey smy spy), .own (gt + 1) 9 1 scy.A scy.n scy.c (y.cmd.map sv), .own (gt + 1) 49 2 sey.A sey.n sey.c (y.env.map varC).flatten, .own (gt + 1) 70 33 smy.A smy.n smy.c (y.mat.map entC).flatten, .own (gt + 1) 70 33 spy.A spy.n spy.c (y.prod.map entC).flatten, .cells g6 31 (recC x1 sc1 se1 sm1 sp1), .own (gt + 1) 9 1 sc1.A sc1.n sc1.c (x1.cmd.map sv), .own (gt + 1) 49 2 se1.A se1.n se1.c (x1.env.map varC).flatten, .own (gt + 1) 70 33 sm1.A sm1.n sm1.c (x1.mat.map entC).flatten, .own (gt + 1) 70 33 sp1.A sp1.n sp1.c (x1.prod.map entC).flatten, tapeC gt A nl cl (at4), .cells w.heap.size 31 (recC x0 sc0 se0 sm0 sp0), .low (Go.AdR.Low.recd B x0 sc0 se0 sm0 sp0), .kept w w.heap.size] → RecGood w' w'.heap.size ⟨y, scy, sey, smy, spy⟩) := Lib.hid (fun w' h => RecOwn.good (ts := 9) (tv := 49) (te := 70) ⟨h.at_ 2 rfl, h.at_ 3 rfl, h.at_ 4 rfl, h.at_ 5 rfl⟩ HOKY.out.ok HOKY.out.cmd HOKY.out.lo HOKY.out.hi)
      go_wp2_with fail
      go_ret
      refine ⟨A11, 3, c11, [⟨x1, sc1, se1, sm1, sp1⟩, ⟨y, scy, sey, smy, spy⟩, ⟨x0, sc0, se0, sm0, sp0⟩], rfl, by decide, rfl, ?_, ?_, (hY11.at_ 14 rfl : _ ∧ _).1⟩
      · exact Els.of (es := [RecM.cells ⟨x1, sc1, se1, sm1, sp1⟩, RecM.cells ⟨y, scy, sey, smy, spy⟩, RecM.cells ⟨x0, sc0, se0, sm0, sp0⟩]) (by have := (hY11.at_ 0 rfl : Go.Adm.Own w11 g8 31 8 A11 (2 + 1) c11 _); rw [List.append_assoc] at this; exact this) (by intro u hu; simp only [List.mem_cons, List.mem_nil_iff, or_false] at hu; rcases hu with rfl | rfl | rfl <;> rfl) rfl
      · intro r hr
        simp only [List.mem_cons, List.mem_nil_iff, or_false] at hr
        rcases hr with rfl | rfl | rfl
        · exact HG12.out _ hY11
        · exact HGY2.out _ hY11
        · have hin := (hY11.at_ 13 rfl : RecIn w11 B x0 sc0 se0 sm0 sp0 ∧ B ≤ w11.heap.size)
          exact ⟨⟨⟨hin.1.cmd.rd.mono hin.2, hin.1.cmd.small⟩, hin.1.env.mono hin.2, hin.1.mat.mono hin.2, hin.1.prod.mono hin.2⟩, HOK9.out, HR.out.lo, HR.out.hi⟩
  · obtain ⟨e1, he1⟩ : ∃ e : E, e = ⟨(⟨#[97, 47, 46, 46, 47, 98]⟩ : ByteArray), dig1⟩ := ⟨_, rfl⟩
    have HE1 : Hid (e1 = ⟨(⟨#[97, 47, 46, 46, 47, 98]⟩ : ByteArray), dig1⟩) := Lib.hid he1
    have HEL : Hid ((entC e1).length = 33) := Lib.hid (by rw [he1]; rfl)
    have HE3 : Hid (E32 e1) := Lib.hid (by rw [he1]; exact ⟨rfl, by decide⟩)
    clear he1
    have hl6 := Cells.lt (hW6.at_ 10 rfl : Cells w6 gt _ _)
    have hl6b := Cells.lt (hW6.at_ 0 rfl)
    go_upto_region 19 with (first
      | (refine wl_val rfl 68 [(0, .const (.int .u8 1))] rfl _ (run_dig1 _) ?_)
      | (refine wl_build rfl 70 [(0, .const (.string (⟨#[97, 47, 46, 46, 47, 98]⟩ : ByteArray))), (1, .tmp 56)] rfl _ _ #[(0, 1), (1, 32)] (entC e1).toArray zero_ent Tryz.underlying70 (fun w => by kernel_rfl) ?_ ?_; rw [HE1.out]; exact fill_ent _ _ rfl)
      | (refine wl_lit1 el_ent rfl (.tmp 57) rfl (entC e1) rfl HEL.out (by decide) ?_; have hX10 := (hW6.alloc (.cells (entC e1).toArray 70)).cons (r := .own w.heap.size 70 33 (some ⟨w6.heap.size, 0, none⟩) 1 1 (entC e1)) (Go.Adm.Own.lit w6 _ 1 (by omega) (by decide) (by rw [List.size_toArray]; exact HEL.out)); obtain ⟨g5, hg5⟩ : ∃ g, g = w6.heap.size := ⟨_, rfl⟩; rw [← hg5] at hX10 hl6 hl6b ⊢; refine wl_gen hX10 ?_; clear hX10 hW6 hg5; intro w9 hW9; have c6 := cell_of (hW9.at_ 1 rfl) (i := 6) rfl; have f6 := Cells.frozen (hW9.at_ 1 rfl) 6))
    have hS := All.store hW9 1 rfl 6 (.slice (some ⟨g5, 0, none⟩) 1 1) ⟨fun g e => .inr (by injection e with e; subst e; exact own_ne_cells (hW9.at_ 0 rfl) (hW9.at_ 1 rfl) (by decide)), fun g e => .inr (by injection e with e; subst e; exact own_ne_cells (hW9.at_ 2 rfl) (hW9.at_ 1 rfl) (by decide)), fun g e => .inr (by injection e with e; subst e; exact own_ne_cells (hW9.at_ 3 rfl) (hW9.at_ 1 rfl) (by decide)), fun g e => .inr (by injection e with e; subst e; exact own_ne_cells (hW9.at_ 4 rfl) (hW9.at_ 1 rfl) (by decide)), fun g e => .inr (by injection e with e; subst e; exact own_ne_cells (hW9.at_ 5 rfl) (hW9.at_ 1 rfl) (by decide)), fun e => by injection e with e; omega, fun g e => .inr (by injection e with e; subst e; exact own_ne_cells (hW9.at_ 7 rfl) (hW9.at_ 1 rfl) (by decide)), fun g e => .inr (by injection e with e; subst e; exact own_ne_cells (hW9.at_ 8 rfl) (hW9.at_ 1 rfl) (by decide)), fun g e => .inr (by injection e with e; subst e; exact own_ne_cells (hW9.at_ 9 rfl) (hW9.at_ 1 rfl) (by decide)), fun g e => .inr (by injection e with e; subst e; exact own_ne_cells (hW9.at_ 10 rfl) (hW9.at_ 1 rfl) (by decide)), fun e => by injection e with e; omega, fun e => by injection e with e; omega, fun g e => (by injection e with e; subst e; show B ≤ _; omega), fun g e => by injection e with e; omega, trivial⟩
    simp only [List.set_cons_succ, List.set_cons_zero] at hS
    clear hW9
    have hS0 : Go.Adm.Own _ g5 70 33 (some ⟨g5, 0, none⟩) 1 1 _ := own_self (hS.at_ 0 rfl)
    obtain ⟨y, hy⟩ : ∃ y : Rec, y = ⟨x2.run, x2.scope, x2.step, x2.t, x2.cmd, x2.env, [e1], x2.prod⟩ := ⟨_, rfl⟩
    obtain ⟨scy, hscy⟩ : ∃ s : Sl, s = sc2 := ⟨_, rfl⟩
    obtain ⟨sey, hsey⟩ : ∃ s : Sl, s = se2 := ⟨_, rfl⟩
    obtain ⟨smy, hsmy⟩ : ∃ s : Sl, s = (⟨some ⟨g5, 0, none⟩, 1, 1⟩ : Sl) := ⟨_, rfl⟩
    obtain ⟨spy, hspy⟩ : ∃ s : Sl, s = sp2 := ⟨_, rfl⟩
    obtain ⟨at4, hat4⟩ : ∃ k, k = at3 := ⟨_, rfl⟩
    have HOKY : Hid (RecFine y) := Lib.hid (by
      rw [hy]
      exact ⟨⟨HOK2.out.ok.run, HOK2.out.ok.step, HOK2.out.ok.scope, HOK2.out.ok.env, (by intro e he; rw [List.mem_singleton.1 he]; exact HE3.out), HOK2.out.ok.prod, HOK2.out.ok.ncmd, HOK2.out.ok.nenv, (by show (1 : Nat) ≤ _; decide), HOK2.out.ok.nprod⟩, HOK2.out.cmd, HOK2.out.lo, HOK2.out.hi⟩)
    refine wp_gen (rs := [.cells g7 31 (recC y scy sey smy spy), .own (gt + 1) 9 1 scy.A scy.n scy.c (y.cmd.map sv), .own (gt + 1) 49 2 sey.A sey.n sey.c (y.env.map varC).flatten, .own (gt + 1) 70 33 smy.A smy.n smy.c (y.mat.map entC).flatten, .own (gt + 1) 70 33 spy.A spy.n spy.c (y.prod.map entC).flatten, .cells g6 31 (recC x1 sc1 se1 sm1 sp1), .own (gt + 1) 9 1 sc1.A sc1.n sc1.c (x1.cmd.map sv), .own (gt + 1) 49 2 se1.A se1.n se1.c (x1.env.map varC).flatten, .own (gt + 1) 70 33 sm1.A sm1.n sm1.c (x1.mat.map entC).flatten, .own (gt + 1) 70 33 sp1.A sp1.n sp1.c (x1.prod.map entC).flatten, tapeC gt A nl cl (at4), .cells w.heap.size 31 (recC x0 sc0 se0 sm0 sp0), .low (Go.AdR.Low.recd B x0 sc0 se0 sm0 sp0), .kept w w.heap.size]) (by rw [hy, hscy, hsey, hsmy, hspy, hat4]; exact ⟨hS.at_ 1 rfl, hS.at_ 2 rfl, hS.at_ 3 rfl, (by rw [show (List.map entC [e1]).flatten = entC e1 from List.append_nil _]; exact hS0.less (by omega)), hS.at_ 5 rfl, hS.at_ 6 rfl, hS.at_ 7 rfl, hS.at_ 8 rfl, hS.at_ 9 rfl, hS.at_ 10 rfl, hS.at_ 11 rfl, hS.at_ 12 rfl, hS.at_ 13 rfl, hS.at_ 14 rfl, trivial⟩) ?_
    clear hy hscy hsey hsmy hspy hat4 hS hS0
    intro wY hY
    have hl7 := Cells.lt (hY.at_ 0 rfl)
    have hl6 := Cells.lt (hY.at_ 5 rfl)
    have hl0 := Cells.lt (hY.at_ 11 rfl)
    have hlt := Cells.lt (hY.at_ 10 rfl : Cells wY gt _ _)
    go_upto_region 20 with (first
      | (refine wl_load_any rfl 31 (.tmp 6) rfl ⟨g6, 0, none⟩ rfl (recC x1 sc1 se1 sm1 sp1) _ (cell_all (hY.at_ 5 rfl)) Tryz.underlying31 rfl (by kernel_rfl) ?_)
      | (refine wl_load_any rfl 31 (.tmp 7) rfl ⟨g7, 0, none⟩ rfl (recC y scy sey smy spy) _ (cell_all (hY.at_ 0 rfl)) Tryz.underlying31 rfl (by kernel_rfl) ?_)
      | (refine wl_lit2 el_recd rfl (.tmp 60) (.tmp 61) rfl (recC x1 sc1 se1 sm1 sp1) (recC y scy sey smy spy) rfl rfl rfl rfl (by decide) ?_; have hY2 := (hY.alloc (.cells (recC x1 sc1 se1 sm1 sp1 ++ recC y scy sey smy spy).toArray 31)).cons (r := .own wY.heap.size 31 8 (some ⟨wY.heap.size, 0, none⟩) 2 2 (recC x1 sc1 se1 sm1 sp1 ++ recC y scy sey smy spy)) (Go.Adm.Own.lit wY _ 2 (Nat.le_refl _) (by decide) rfl); obtain ⟨g8, hg8⟩ : ∃ g, g = wY.heap.size := ⟨_, rfl⟩; rw [← hg8] at hY2 hl7 hl6 hl0 hlt ⊢; clear hg8; refine wl_gen hY2 ?_; clear hY2 hY; intro w8 hY))
    have hin := (hY.at_ 13 rfl : RecIn w8 B x0 sc0 se0 sm0 sp0 ∧ B ≤ w8.heap.size)
    have hlt8 : w.heap.size ≤ w8.heap.size := (hY.at_ 14 rfl : _ ∧ _).2
    have hlight := light_any w8 B x0 sc0 se0 sm0 sp0 hin.1 HR.out hin.2
    go_upto_region 20 with (fail)
    go_wp2_with (first
      | (refine wl_load_any rfl 31 (.tmp 2) rfl ⟨w.heap.size, 0, none⟩ rfl (recC x0 sc0 se0 sm0 sp0) _ (cell_all (hY.at_ 12 rfl)) Tryz.underlying31 rfl (by kernel_rfl) ?_)
      | fail)
    refine hlight.mono ?_
    rintro e w9 ⟨b, rfl, hb9, hok0⟩
    have HOK0 := Lib.hid hok0
    have hY9 := hY.call hb9
    clear hY hb9 hlight hok0 hin
    have HG1 : Hid (∀ w', All w' [.own g8 31 8 (some ⟨g8, 0, none⟩) 2 2 (recC x1 sc1 se1 sm1 sp1 ++ recC y scy sey smy spy), .cells g7 31 (recC y scy sey smy spy), .own (gt + 1) 9 1 scy.A scy.n scy.c (y.cmd.map sv), .own (gt + 1) 49 2 sey.A sey.n sey.c (y.env.map varC).flatten, .own (gt + 1) 70 33 smy.A smy.n smy.c (y.mat.map entC).flatten, .own (gt + 1) 70 33 spy.A spy.n spy.c (y.prod.map entC).flatten, .cells g6 31 (recC x1 sc1 se1 sm1 sp1), .own (gt + 1) 9 1 sc1.A sc1.n sc1.c (x1.cmd.map sv), .own (gt + 1) 49 2 se1.A se1.n se1.c (x1.env.map varC).flatten, .own (gt + 1) 70 33 sm1.A sm1.n sm1.c (x1.mat.map entC).flatten, .own (gt + 1) 70 33 sp1.A sp1.n sp1.c (x1.prod.map entC).flatten, tapeC gt A nl cl (at4), .cells w.heap.size 31 (recC x0 sc0 se0 sm0 sp0), .low (Go.AdR.Low.recd B x0 sc0 se0 sm0 sp0), .kept w w.heap.size] → RecGood w' w'.heap.size ⟨x1, sc1, se1, sm1, sp1⟩) := Lib.hid (fun w' h => RecOwn.good (ts := 9) (tv := 49) (te := 70) ⟨h.at_ 7 rfl, h.at_ 8 rfl, h.at_ 9 rfl, h.at_ 10 rfl⟩ HOK1.out.ok HOK1.out.cmd HOK1.out.lo HOK1.out.hi)
    have HGY : Hid (∀ w', All w' [.own g8 31 8 (some ⟨g8, 0, none⟩) 2 2 (recC x1 sc1 se1 sm1 sp1 ++ recC y scy sey smy spy), .cells g7 31 (recC y scy sey smy spy), .own (gt + 1) 9 1 scy.A scy.n scy.c (y.cmd.map sv), .own (gt + 1) 49 2 sey.A sey.n sey.c (y.env.map varC).flatten, .own (gt + 1) 70 33 smy.A smy.n smy.c (y.mat.map entC).flatten, .own (gt + 1) 70 33 spy.A spy.n spy.c (y.prod.map entC).flatten, .cells g6 31 (recC x1 sc1 se1 sm1 sp1), .own (gt + 1) 9 1 sc1.A sc1.n sc1.c (x1.cmd.map sv), .own (gt + 1) 49 2 se1.A se1.n se1.c (x1.env.map varC).flatten, .own (gt + 1) 70 33 sm1.A sm1.n sm1.c (x1.mat.map entC).flatten, .own (gt + 1) 70 33 sp1.A sp1.n sp1.c (x1.prod.map entC).flatten, tapeC gt A nl cl (at4), .cells w.heap.size 31 (recC x0 sc0 se0 sm0 sp0), .low (Go.AdR.Low.recd B x0 sc0 se0 sm0 sp0), .kept w w.heap.size] → RecGood w' w'.heap.size ⟨y, scy, sey, smy, spy⟩) := Lib.hid (fun w' h => RecOwn.good (ts := 9) (tv := 49) (te := 70) ⟨h.at_ 2 rfl, h.at_ 3 rfl, h.at_ 4 rfl, h.at_ 5 rfl⟩ HOKY.out.ok HOKY.out.cmd HOKY.out.lo HOKY.out.hi)
    cases b with
    | false =>
      go_wp2_with fail
      go_ret
      refine ⟨some ⟨g8, 0, none⟩, 2, 2, [⟨x1, sc1, se1, sm1, sp1⟩, ⟨y, scy, sey, smy, spy⟩], rfl, by decide, rfl, ?_, ?_, (hY9.at_ 14 rfl : _ ∧ _).1⟩
      · exact Els.of (hY9.at_ 0 rfl) (by intro u hu; simp only [List.map_cons, List.map_nil, List.mem_cons, List.mem_nil_iff, or_false] at hu; rcases hu with rfl | rfl <;> rfl) rfl
      · intro r hr
        simp only [List.mem_cons, List.mem_nil_iff, or_false] at hr
        rcases hr with rfl | rfl
        · exact HG1.out _ hY9
        · exact HGY.out _ hY9
    | true =>
      have HOK9 : Hid (RecOk x0) := Lib.hid (HOK0.out rfl)
      clear HOK0
      have hl9 := Cells.lt (hY9.at_ 12 rfl)
      go_upto_region 22 with (first
        | (refine wl_load_any rfl 31 (.tmp 2) rfl ⟨w.heap.size, 0, none⟩ rfl (recC x0 sc0 se0 sm0 sp0) _ (cell_all (hY9.at_ 12 rfl)) Tryz.underlying31 rfl (by kernel_rfl) ?_)
        | (refine wl_lit1 el_recd rfl (.tmp 66) rfl (recC x0 sc0 se0 sm0 sp0) rfl rfl (by decide) ?_; have hY10 := hY9.alloc (.cells (recC x0 sc0 se0 sm0 sp0).toArray 31); have hrd10 := Rd.lit (size := 8) w9 (recC x0 sc0 se0 sm0 sp0).toArray 31 1 rfl; obtain ⟨w10, hw10⟩ : ∃ u, u = w9.alloc (.cells (recC x0 sc0 se0 sm0 sp0).toArray 31) := ⟨_, rfl⟩; rw [← hw10] at hY10 hrd10 ⊢; clear hw10)
        | (refine wl_app_at el_recd hY10 0 rfl (.tmp 65) (.tmp 67) rfl g8 (some ⟨g8, 0, none⟩) 2 2 (recC x1 sc1 se1 sm1 sp1 ++ recC y scy sey smy spy) rfl rfl _ _ 1 1 (recC x0 sc0 se0 sm0 sp0) rfl hrd10 ?uq1c6 ?uq2c6 ?uq3c6 ?uq4c6 ?uq5c6; go_must (
            case uq1c6 => exact recC_one _ _ _ _ _
            case uq2c6 => decide
            case uq3c6 => exact Nat.le_of_lt ((hY10.at_ 0 rfl : Go.Adm.Own w10 g8 31 8 (some ⟨g8, 0, none⟩) 2 2 _).lt rfl).2
            case uq4c6 =>
              intro g hg he
              obtain rfl : g8 = g := (by simpa [Value.ownBlock] using he)
              have hown := (hY10.at_ 0 rfl : Go.Adm.Own w10 g8 31 8 (some ⟨g8, 0, none⟩) 2 2 _)
              exact ⟨fun e => by injection e with e; omega, fun g' e => .inr (by injection e with e; subst e; exact own_ne_own (hY10.at_ 2 rfl) hown (by decide) rfl), fun g' e => .inr (by injection e with e; subst e; exact own_ne_own (hY10.at_ 3 rfl) hown (by decide) rfl), fun g' e => .inr (by injection e with e; subst e; exact own_ne_own (hY10.at_ 4 rfl) hown (by decide) rfl), fun g' e => .inr (by injection e with e; subst e; exact own_ne_own (hY10.at_ 5 rfl) hown (by decide) rfl), fun e => by injection e with e; omega, fun g' e => .inr (by injection e with e; subst e; exact own_ne_own (hY10.at_ 7 rfl) hown (by decide) rfl), fun g' e => .inr (by injection e with e; subst e; exact own_ne_own (hY10.at_ 8 rfl) hown (by decide) rfl), fun g' e => .inr (by injection e with e; subst e; exact own_ne_own (hY10.at_ 9 rfl) hown (by decide) rfl), fun g' e => .inr (by injection e with e; subst e; exact own_ne_own (hY10.at_ 10 rfl) hown (by decide) rfl), fun e => by injection e with e; omega, fun e => by injection e with e; omega, fun g' e => (by injection e with e; subst e; show B ≤ _; omega), fun g' e => by injection e with e; omega, trivial⟩
            intro A11 c11 w11 hY11 hs11)))
      simp only [List.set_cons_zero] at hY11
      have HG12 : Hid (∀ w', All w' [.own g8 31 8 A11 (2 + 1) c11 ((recC x1 sc1 se1 sm1 sp1 ++ recC y scy sey smy spy) ++ recC x0 sc0 se0 sm0 sp0), .cells g7 31 (recC y scy sey smy spy), .own (gt + 1) 9 1 scy.A scy.n scy.c (y.cmd.map sv), .own (gt + 1) 49 2 sey.A sey.n sey.c (y.env.map varC).flatten, .own (gt + 1) 70 33 smy.A smy.n smy.c (y.mat.map entC).flatten, .own (gt + 1) 70 33 spy.A spy.n spy.c (y.prod.map entC).flatten, .cells g6 31 (recC x1 sc1 se1 sm1 sp1), .own (gt + 1) 9 1 sc1.A sc1.n sc1.c (x1.cmd.map sv), .own (gt + 1) 49 2 se1.A se1.n se1.c (x1.env.map varC).flatten, .own (gt + 1) 70 33 sm1.A sm1.n sm1.c (x1.mat.map entC).flatten, .own (gt + 1) 70 33 sp1.A sp1.n sp1.c (x1.prod.map entC).flatten, tapeC gt A nl cl (at4), .cells w.heap.size 31 (recC x0 sc0 se0 sm0 sp0), .low (Go.AdR.Low.recd B x0 sc0 se0 sm0 sp0), .kept w w.heap.size] → RecGood w' w'.heap.size ⟨x1, sc1, se1, sm1, sp1⟩) := Lib.hid (fun w' h => RecOwn.good (ts := 9) (tv := 49) (te := 70) ⟨h.at_ 7 rfl, h.at_ 8 rfl, h.at_ 9 rfl, h.at_ 10 rfl⟩ HOK1.out.ok HOK1.out.cmd HOK1.out.lo HOK1.out.hi)
      have HGY2 : Hid (∀ w', All w' [.own g8 31 8 A11 (2 + 1) c11 ((recC x1 sc1 se1 sm1 sp1 ++ recC y scy sey smy spy) ++ recC x0 sc0 se0 sm0 sp0), .cells g7 31 (recC y scy sey smy spy), .own (gt + 1) 9 1 scy.A scy.n scy.c (y.cmd.map sv), .own (gt + 1) 49 2 sey.A sey.n sey.c (y.env.map varC).flatten, .own (gt + 1) 70 33 smy.A smy.n smy.c (y.mat.map entC).flatten, .own (gt + 1) 70 33 spy.A spy.n spy.c (y.prod.map entC).flatten, .cells g6 31 (recC x1 sc1 se1 sm1 sp1), .own (gt + 1) 9 1 sc1.A sc1.n sc1.c (x1.cmd.map sv), .own (gt + 1) 49 2 se1.A se1.n se1.c (x1.env.map varC).flatten, .own (gt + 1) 70 33 sm1.A sm1.n sm1.c (x1.mat.map entC).flatten, .own (gt + 1) 70 33 sp1.A sp1.n sp1.c (x1.prod.map entC).flatten, tapeC gt A nl cl (at4), .cells w.heap.size 31 (recC x0 sc0 se0 sm0 sp0), .low (Go.AdR.Low.recd B x0 sc0 se0 sm0 sp0), .kept w w.heap.size] → RecGood w' w'.heap.size ⟨y, scy, sey, smy, spy⟩) := Lib.hid (fun w' h => RecOwn.good (ts := 9) (tv := 49) (te := 70) ⟨h.at_ 2 rfl, h.at_ 3 rfl, h.at_ 4 rfl, h.at_ 5 rfl⟩ HOKY.out.ok HOKY.out.cmd HOKY.out.lo HOKY.out.hi)
      go_wp2_with fail
      go_ret
      refine ⟨A11, 3, c11, [⟨x1, sc1, se1, sm1, sp1⟩, ⟨y, scy, sey, smy, spy⟩, ⟨x0, sc0, se0, sm0, sp0⟩], rfl, by decide, rfl, ?_, ?_, (hY11.at_ 14 rfl : _ ∧ _).1⟩
      · exact Els.of (es := [RecM.cells ⟨x1, sc1, se1, sm1, sp1⟩, RecM.cells ⟨y, scy, sey, smy, spy⟩, RecM.cells ⟨x0, sc0, se0, sm0, sp0⟩]) (by have := (hY11.at_ 0 rfl : Go.Adm.Own w11 g8 31 8 A11 (2 + 1) c11 _); rw [List.append_assoc] at this; exact this) (by intro u hu; simp only [List.mem_cons, List.mem_nil_iff, or_false] at hu; rcases hu with rfl | rfl | rfl <;> rfl) rfl
      · intro r hr
        simp only [List.mem_cons, List.mem_nil_iff, or_false] at hr
        rcases hr with rfl | rfl | rfl
        · exact HG12.out _ hY11
        · exact HGY2.out _ hY11
        · have hin := (hY11.at_ 13 rfl : RecIn w11 B x0 sc0 se0 sm0 sp0 ∧ B ≤ w11.heap.size)
          exact ⟨⟨⟨hin.1.cmd.rd.mono hin.2, hin.1.cmd.small⟩, hin.1.env.mono hin.2, hin.1.mat.mono hin.2, hin.1.prod.mono hin.2⟩, HOK9.out, HR.out.lo, HR.out.hi⟩
  · go_upto_region 19 with (fail)
    obtain ⟨y, hy⟩ : ∃ y : Rec, y = x2 := ⟨_, rfl⟩
    obtain ⟨scy, hscy⟩ : ∃ s : Sl, s = sc2 := ⟨_, rfl⟩
    obtain ⟨sey, hsey⟩ : ∃ s : Sl, s = se2 := ⟨_, rfl⟩
    obtain ⟨smy, hsmy⟩ : ∃ s : Sl, s = sm2 := ⟨_, rfl⟩
    obtain ⟨spy, hspy⟩ : ∃ s : Sl, s = sp2 := ⟨_, rfl⟩
    obtain ⟨at4, hat4⟩ : ∃ k, k = at3 := ⟨_, rfl⟩
    have HOKY : Hid (RecFine y) := Lib.hid (by
      rw [hy]
      exact ⟨HOK2.out.ok, HOK2.out.cmd, HOK2.out.lo, HOK2.out.hi⟩)
    refine wp_gen (rs := [.cells g7 31 (recC y scy sey smy spy), .own (gt + 1) 9 1 scy.A scy.n scy.c (y.cmd.map sv), .own (gt + 1) 49 2 sey.A sey.n sey.c (y.env.map varC).flatten, .own (gt + 1) 70 33 smy.A smy.n smy.c (y.mat.map entC).flatten, .own (gt + 1) 70 33 spy.A spy.n spy.c (y.prod.map entC).flatten, .cells g6 31 (recC x1 sc1 se1 sm1 sp1), .own (gt + 1) 9 1 sc1.A sc1.n sc1.c (x1.cmd.map sv), .own (gt + 1) 49 2 se1.A se1.n se1.c (x1.env.map varC).flatten, .own (gt + 1) 70 33 sm1.A sm1.n sm1.c (x1.mat.map entC).flatten, .own (gt + 1) 70 33 sp1.A sp1.n sp1.c (x1.prod.map entC).flatten, tapeC gt A nl cl (at4), .cells w.heap.size 31 (recC x0 sc0 se0 sm0 sp0), .low (Go.AdR.Low.recd B x0 sc0 se0 sm0 sp0), .kept w w.heap.size]) (by rw [hy, hscy, hsey, hsmy, hspy, hat4]; exact hW6) ?_
    clear hy hscy hsey hsmy hspy hat4 hW6
    intro wY hY
    have hl7 := Cells.lt (hY.at_ 0 rfl)
    have hl6 := Cells.lt (hY.at_ 5 rfl)
    have hl0 := Cells.lt (hY.at_ 11 rfl)
    have hlt := Cells.lt (hY.at_ 10 rfl : Cells wY gt _ _)
    go_upto_region 20 with (first
      | (refine wl_load_any rfl 31 (.tmp 6) rfl ⟨g6, 0, none⟩ rfl (recC x1 sc1 se1 sm1 sp1) _ (cell_all (hY.at_ 5 rfl)) Tryz.underlying31 rfl (by kernel_rfl) ?_)
      | (refine wl_load_any rfl 31 (.tmp 7) rfl ⟨g7, 0, none⟩ rfl (recC y scy sey smy spy) _ (cell_all (hY.at_ 0 rfl)) Tryz.underlying31 rfl (by kernel_rfl) ?_)
      | (refine wl_lit2 el_recd rfl (.tmp 60) (.tmp 61) rfl (recC x1 sc1 se1 sm1 sp1) (recC y scy sey smy spy) rfl rfl rfl rfl (by decide) ?_; have hY2 := (hY.alloc (.cells (recC x1 sc1 se1 sm1 sp1 ++ recC y scy sey smy spy).toArray 31)).cons (r := .own wY.heap.size 31 8 (some ⟨wY.heap.size, 0, none⟩) 2 2 (recC x1 sc1 se1 sm1 sp1 ++ recC y scy sey smy spy)) (Go.Adm.Own.lit wY _ 2 (Nat.le_refl _) (by decide) rfl); obtain ⟨g8, hg8⟩ : ∃ g, g = wY.heap.size := ⟨_, rfl⟩; rw [← hg8] at hY2 hl7 hl6 hl0 hlt ⊢; clear hg8; refine wl_gen hY2 ?_; clear hY2 hY; intro w8 hY))
    have hin := (hY.at_ 13 rfl : RecIn w8 B x0 sc0 se0 sm0 sp0 ∧ B ≤ w8.heap.size)
    have hlt8 : w.heap.size ≤ w8.heap.size := (hY.at_ 14 rfl : _ ∧ _).2
    have hlight := light_any w8 B x0 sc0 se0 sm0 sp0 hin.1 HR.out hin.2
    go_upto_region 20 with (fail)
    go_wp2_with (first
      | (refine wl_load_any rfl 31 (.tmp 2) rfl ⟨w.heap.size, 0, none⟩ rfl (recC x0 sc0 se0 sm0 sp0) _ (cell_all (hY.at_ 12 rfl)) Tryz.underlying31 rfl (by kernel_rfl) ?_)
      | fail)
    refine hlight.mono ?_
    rintro e w9 ⟨b, rfl, hb9, hok0⟩
    have HOK0 := Lib.hid hok0
    have hY9 := hY.call hb9
    clear hY hb9 hlight hok0 hin
    have HG1 : Hid (∀ w', All w' [.own g8 31 8 (some ⟨g8, 0, none⟩) 2 2 (recC x1 sc1 se1 sm1 sp1 ++ recC y scy sey smy spy), .cells g7 31 (recC y scy sey smy spy), .own (gt + 1) 9 1 scy.A scy.n scy.c (y.cmd.map sv), .own (gt + 1) 49 2 sey.A sey.n sey.c (y.env.map varC).flatten, .own (gt + 1) 70 33 smy.A smy.n smy.c (y.mat.map entC).flatten, .own (gt + 1) 70 33 spy.A spy.n spy.c (y.prod.map entC).flatten, .cells g6 31 (recC x1 sc1 se1 sm1 sp1), .own (gt + 1) 9 1 sc1.A sc1.n sc1.c (x1.cmd.map sv), .own (gt + 1) 49 2 se1.A se1.n se1.c (x1.env.map varC).flatten, .own (gt + 1) 70 33 sm1.A sm1.n sm1.c (x1.mat.map entC).flatten, .own (gt + 1) 70 33 sp1.A sp1.n sp1.c (x1.prod.map entC).flatten, tapeC gt A nl cl (at4), .cells w.heap.size 31 (recC x0 sc0 se0 sm0 sp0), .low (Go.AdR.Low.recd B x0 sc0 se0 sm0 sp0), .kept w w.heap.size] → RecGood w' w'.heap.size ⟨x1, sc1, se1, sm1, sp1⟩) := Lib.hid (fun w' h => RecOwn.good (ts := 9) (tv := 49) (te := 70) ⟨h.at_ 7 rfl, h.at_ 8 rfl, h.at_ 9 rfl, h.at_ 10 rfl⟩ HOK1.out.ok HOK1.out.cmd HOK1.out.lo HOK1.out.hi)
    have HGY : Hid (∀ w', All w' [.own g8 31 8 (some ⟨g8, 0, none⟩) 2 2 (recC x1 sc1 se1 sm1 sp1 ++ recC y scy sey smy spy), .cells g7 31 (recC y scy sey smy spy), .own (gt + 1) 9 1 scy.A scy.n scy.c (y.cmd.map sv), .own (gt + 1) 49 2 sey.A sey.n sey.c (y.env.map varC).flatten, .own (gt + 1) 70 33 smy.A smy.n smy.c (y.mat.map entC).flatten, .own (gt + 1) 70 33 spy.A spy.n spy.c (y.prod.map entC).flatten, .cells g6 31 (recC x1 sc1 se1 sm1 sp1), .own (gt + 1) 9 1 sc1.A sc1.n sc1.c (x1.cmd.map sv), .own (gt + 1) 49 2 se1.A se1.n se1.c (x1.env.map varC).flatten, .own (gt + 1) 70 33 sm1.A sm1.n sm1.c (x1.mat.map entC).flatten, .own (gt + 1) 70 33 sp1.A sp1.n sp1.c (x1.prod.map entC).flatten, tapeC gt A nl cl (at4), .cells w.heap.size 31 (recC x0 sc0 se0 sm0 sp0), .low (Go.AdR.Low.recd B x0 sc0 se0 sm0 sp0), .kept w w.heap.size] → RecGood w' w'.heap.size ⟨y, scy, sey, smy, spy⟩) := Lib.hid (fun w' h => RecOwn.good (ts := 9) (tv := 49) (te := 70) ⟨h.at_ 2 rfl, h.at_ 3 rfl, h.at_ 4 rfl, h.at_ 5 rfl⟩ HOKY.out.ok HOKY.out.cmd HOKY.out.lo HOKY.out.hi)
    cases b with
    | false =>
      go_wp2_with fail
      go_ret
      refine ⟨some ⟨g8, 0, none⟩, 2, 2, [⟨x1, sc1, se1, sm1, sp1⟩, ⟨y, scy, sey, smy, spy⟩], rfl, by decide, rfl, ?_, ?_, (hY9.at_ 14 rfl : _ ∧ _).1⟩
      · exact Els.of (hY9.at_ 0 rfl) (by intro u hu; simp only [List.map_cons, List.map_nil, List.mem_cons, List.mem_nil_iff, or_false] at hu; rcases hu with rfl | rfl <;> rfl) rfl
      · intro r hr
        simp only [List.mem_cons, List.mem_nil_iff, or_false] at hr
        rcases hr with rfl | rfl
        · exact HG1.out _ hY9
        · exact HGY.out _ hY9
    | true =>
      have HOK9 : Hid (RecOk x0) := Lib.hid (HOK0.out rfl)
      clear HOK0
      have hl9 := Cells.lt (hY9.at_ 12 rfl)
      go_upto_region 22 with (first
        | (refine wl_load_any rfl 31 (.tmp 2) rfl ⟨w.heap.size, 0, none⟩ rfl (recC x0 sc0 se0 sm0 sp0) _ (cell_all (hY9.at_ 12 rfl)) Tryz.underlying31 rfl (by kernel_rfl) ?_)
        | (refine wl_lit1 el_recd rfl (.tmp 66) rfl (recC x0 sc0 se0 sm0 sp0) rfl rfl (by decide) ?_; have hY10 := hY9.alloc (.cells (recC x0 sc0 se0 sm0 sp0).toArray 31); have hrd10 := Rd.lit (size := 8) w9 (recC x0 sc0 se0 sm0 sp0).toArray 31 1 rfl; obtain ⟨w10, hw10⟩ : ∃ u, u = w9.alloc (.cells (recC x0 sc0 se0 sm0 sp0).toArray 31) := ⟨_, rfl⟩; rw [← hw10] at hY10 hrd10 ⊢; clear hw10)
        | (refine wl_app_at el_recd hY10 0 rfl (.tmp 65) (.tmp 67) rfl g8 (some ⟨g8, 0, none⟩) 2 2 (recC x1 sc1 se1 sm1 sp1 ++ recC y scy sey smy spy) rfl rfl _ _ 1 1 (recC x0 sc0 se0 sm0 sp0) rfl hrd10 ?uq1c7 ?uq2c7 ?uq3c7 ?uq4c7 ?uq5c7; go_must (
            case uq1c7 => exact recC_one _ _ _ _ _
            case uq2c7 => decide
            case uq3c7 => exact Nat.le_of_lt ((hY10.at_ 0 rfl : Go.Adm.Own w10 g8 31 8 (some ⟨g8, 0, none⟩) 2 2 _).lt rfl).2
            case uq4c7 =>
              intro g hg he
              obtain rfl : g8 = g := (by simpa [Value.ownBlock] using he)
              have hown := (hY10.at_ 0 rfl : Go.Adm.Own w10 g8 31 8 (some ⟨g8, 0, none⟩) 2 2 _)
              exact ⟨fun e => by injection e with e; omega, fun g' e => .inr (by injection e with e; subst e; exact own_ne_own (hY10.at_ 2 rfl) hown (by decide) rfl), fun g' e => .inr (by injection e with e; subst e; exact own_ne_own (hY10.at_ 3 rfl) hown (by decide) rfl), fun g' e => .inr (by injection e with e; subst e; exact own_ne_own (hY10.at_ 4 rfl) hown (by decide) rfl), fun g' e => .inr (by injection e with e; subst e; exact own_ne_own (hY10.at_ 5 rfl) hown (by decide) rfl), fun e => by injection e with e; omega, fun g' e => .inr (by injection e with e; subst e; exact own_ne_own (hY10.at_ 7 rfl) hown (by decide) rfl), fun g' e => .inr (by injection e with e; subst e; exact own_ne_own (hY10.at_ 8 rfl) hown (by decide) rfl), fun g' e => .inr (by injection e with e; subst e; exact own_ne_own (hY10.at_ 9 rfl) hown (by decide) rfl), fun g' e => .inr (by injection e with e; subst e; exact own_ne_own (hY10.at_ 10 rfl) hown (by decide) rfl), fun e => by injection e with e; omega, fun e => by injection e with e; omega, fun g' e => (by injection e with e; subst e; show B ≤ _; omega), fun g' e => by injection e with e; omega, trivial⟩
            intro A11 c11 w11 hY11 hs11)))
      simp only [List.set_cons_zero] at hY11
      have HG12 : Hid (∀ w', All w' [.own g8 31 8 A11 (2 + 1) c11 ((recC x1 sc1 se1 sm1 sp1 ++ recC y scy sey smy spy) ++ recC x0 sc0 se0 sm0 sp0), .cells g7 31 (recC y scy sey smy spy), .own (gt + 1) 9 1 scy.A scy.n scy.c (y.cmd.map sv), .own (gt + 1) 49 2 sey.A sey.n sey.c (y.env.map varC).flatten, .own (gt + 1) 70 33 smy.A smy.n smy.c (y.mat.map entC).flatten, .own (gt + 1) 70 33 spy.A spy.n spy.c (y.prod.map entC).flatten, .cells g6 31 (recC x1 sc1 se1 sm1 sp1), .own (gt + 1) 9 1 sc1.A sc1.n sc1.c (x1.cmd.map sv), .own (gt + 1) 49 2 se1.A se1.n se1.c (x1.env.map varC).flatten, .own (gt + 1) 70 33 sm1.A sm1.n sm1.c (x1.mat.map entC).flatten, .own (gt + 1) 70 33 sp1.A sp1.n sp1.c (x1.prod.map entC).flatten, tapeC gt A nl cl (at4), .cells w.heap.size 31 (recC x0 sc0 se0 sm0 sp0), .low (Go.AdR.Low.recd B x0 sc0 se0 sm0 sp0), .kept w w.heap.size] → RecGood w' w'.heap.size ⟨x1, sc1, se1, sm1, sp1⟩) := Lib.hid (fun w' h => RecOwn.good (ts := 9) (tv := 49) (te := 70) ⟨h.at_ 7 rfl, h.at_ 8 rfl, h.at_ 9 rfl, h.at_ 10 rfl⟩ HOK1.out.ok HOK1.out.cmd HOK1.out.lo HOK1.out.hi)
      have HGY2 : Hid (∀ w', All w' [.own g8 31 8 A11 (2 + 1) c11 ((recC x1 sc1 se1 sm1 sp1 ++ recC y scy sey smy spy) ++ recC x0 sc0 se0 sm0 sp0), .cells g7 31 (recC y scy sey smy spy), .own (gt + 1) 9 1 scy.A scy.n scy.c (y.cmd.map sv), .own (gt + 1) 49 2 sey.A sey.n sey.c (y.env.map varC).flatten, .own (gt + 1) 70 33 smy.A smy.n smy.c (y.mat.map entC).flatten, .own (gt + 1) 70 33 spy.A spy.n spy.c (y.prod.map entC).flatten, .cells g6 31 (recC x1 sc1 se1 sm1 sp1), .own (gt + 1) 9 1 sc1.A sc1.n sc1.c (x1.cmd.map sv), .own (gt + 1) 49 2 se1.A se1.n se1.c (x1.env.map varC).flatten, .own (gt + 1) 70 33 sm1.A sm1.n sm1.c (x1.mat.map entC).flatten, .own (gt + 1) 70 33 sp1.A sp1.n sp1.c (x1.prod.map entC).flatten, tapeC gt A nl cl (at4), .cells w.heap.size 31 (recC x0 sc0 se0 sm0 sp0), .low (Go.AdR.Low.recd B x0 sc0 se0 sm0 sp0), .kept w w.heap.size] → RecGood w' w'.heap.size ⟨y, scy, sey, smy, spy⟩) := Lib.hid (fun w' h => RecOwn.good (ts := 9) (tv := 49) (te := 70) ⟨h.at_ 2 rfl, h.at_ 3 rfl, h.at_ 4 rfl, h.at_ 5 rfl⟩ HOKY.out.ok HOKY.out.cmd HOKY.out.lo HOKY.out.hi)
      go_wp2_with fail
      go_ret
      refine ⟨A11, 3, c11, [⟨x1, sc1, se1, sm1, sp1⟩, ⟨y, scy, sey, smy, spy⟩, ⟨x0, sc0, se0, sm0, sp0⟩], rfl, by decide, rfl, ?_, ?_, (hY11.at_ 14 rfl : _ ∧ _).1⟩
      · exact Els.of (es := [RecM.cells ⟨x1, sc1, se1, sm1, sp1⟩, RecM.cells ⟨y, scy, sey, smy, spy⟩, RecM.cells ⟨x0, sc0, se0, sm0, sp0⟩]) (by have := (hY11.at_ 0 rfl : Go.Adm.Own w11 g8 31 8 A11 (2 + 1) c11 _); rw [List.append_assoc] at this; exact this) (by intro u hu; simp only [List.mem_cons, List.mem_nil_iff, or_false] at hu; rcases hu with rfl | rfl | rfl <;> rfl) rfl
      · intro r hr
        simp only [List.mem_cons, List.mem_nil_iff, or_false] at hr
        rcases hr with rfl | rfl | rfl
        · exact HG12.out _ hY11
        · exact HGY2.out _ hY11
        · have hin := (hY11.at_ 13 rfl : RecIn w11 B x0 sc0 se0 sm0 sp0 ∧ B ≤ w11.heap.size)
          exact ⟨⟨⟨hin.1.cmd.rd.mono hin.2, hin.1.cmd.small⟩, hin.1.env.mono hin.2, hin.1.mat.mono hin.2, hin.1.prod.mono hin.2⟩, HOK9.out, HR.out.lo, HR.out.hi⟩
end Go.Proofs.YtjdinakdkdjocaaGreatDoor

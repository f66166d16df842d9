/- A record made from a tape. -/
import Derived.Test.YtjdinakdkdjocaaGreatDoorTapA
import Derived.Test.YtjdinakdkdjocaaGreatDoorLit2
import Derived.Test.YtjdinakdkdjocaaGreatDoorRec6
import Derived.Test.YtjdinakdkdjocaaGreatDoorRec2
set_option linter.unusedSimpArgs false
set_option linter.unusedVariables false
set_option maxRecDepth 100000
namespace Go.AdR
open Go Go.RowKit Go.Adm
theorem cells_ne {w : World} {g g' : Nat} {t t' : TypeId} {cs cs' : List Value} (h : Cells w g t cs) (h' : Cells w g' t' cs') (hne : t ≠ t') : g ≠ g' := fun e => by
  subst e
  have := h.symm.trans h'
  injection this with this
  injection this with _ this
  exact hne this
def runL : List ByteArray := [⟨#[114, 117, 110, 45, 49]⟩, ⟨#[114, 117, 110, 45, 50]⟩, ⟨#[57]⟩]
def scopeL : List ByteArray := [⟨#[]⟩, ⟨#[98, 117, 105, 108, 100]⟩, ⟨#[97, 47, 98, 47, 99]⟩, ⟨#[97, 47, 98, 47, 99, 47, 100]⟩]
def stepL : List ByteArray := [⟨#[98, 117, 105, 108, 100]⟩, ⟨#[116, 101, 115, 116]⟩]
def cmdL : List ByteArray := [⟨#[109, 97, 107, 101]⟩, ⟨#[45, 106]⟩, ⟨#[]⟩, ⟨#[97, 32, 98]⟩]
def valL : List ByteArray := [⟨#[]⟩, ⟨#[103, 99, 99, 32, 49, 37]⟩]
theorem made_small : ((runL ++ (scopeL ++ (stepL ++ (cmdL ++ valL)))).all fun p => decide (p.size ≤ 100)) = true := by decide +kernel
theorem small_of {s : ByteArray} (h : s ∈ runL ∨ s ∈ scopeL ∨ s ∈ stepL ∨ s ∈ cmdL ∨ s ∈ valL) : s.size ≤ 100 := by
  have h2 := List.all_eq_true.1 made_small s (by simp only [List.mem_append]; exact h)
  simpa using h2
/-- a record whose lists are rows of the call's own -/
structure RecOwn (ts tv te : TypeId) (w : World) (base : Nat) (x : Rec) (sc se sm sp : Sl) : Prop where
  cmd : Go.Adm.Own w base ts 1 sc.A sc.n sc.c (x.cmd.map sv)
  env : Go.Adm.Own w base tv 2 se.A se.n se.c (x.env.map varC).flatten
  mat : Go.Adm.Own w base te 33 sm.A sm.n sm.c (x.mat.map entC).flatten
  prod : Go.Adm.Own w base te 33 sp.A sp.n sp.c (x.prod.map entC).flatten
/-- the parts of a record that was made -/
structure MadeShape (x : Rec) : Prop where
  run : x.run ∈ runL
  scope : x.scope ∈ scopeL
  step : x.step ∈ stepL
  lo : 0 ≤ x.t
  hi : x.t < 50
  ncmd : x.cmd.length ≤ 3
  cmd : ∀ s ∈ x.cmd, s ∈ cmdL
  env : x.env = [] ∨ ∃ v ∈ valL, x.env = [⟨⟨#[99, 99]⟩, v⟩, ⟨⟨#[112, 97, 116, 104]⟩, ⟨#[120]⟩⟩]
  mat : GoodL x.mat
  nmat : x.mat.length ≤ 5
  prod : GoodL x.prod
  nprod : x.prod.length ≤ 8
/-- what is known of a record that was made -/
structure MadeOk (x : Rec) : Prop where
  shape : MadeShape x
  ok : RecOk x
  cmd : ∀ s ∈ x.cmd, s.size ≤ 140737488355328
  lo : -9223372036854775808 ≤ x.t
  hi : x.t ≤ 9223372036854775807
  nprod : x.prod.length ≤ 1000
theorem fill_rec (a b c : ByteArray) (k : Int) (m p : Sl) : Instr.fill (#[(0, 1), (1, 1), (2, 1), (3, 1), (4, 1), (5, 1), (6, 1), (7, 1)][·]?) recZ.toArray [(0, .string a), (1, .string b), (2, .string c), (3, .int .i64 k), (6, .slice m.A m.n m.c), (7, .slice p.A p.n p.c)] = some #[.string a, .string b, .string c, .int .i64 k, .slice none 0 0, .slice none 0 0, .slice m.A m.n m.c, .slice p.A p.n p.c] := by
  refine (fill_step (off := 0) (size := 1) (es := [.string a]) (pre := []) (old := [Value.string ByteArray.empty]) (post := [Value.string ByteArray.empty, Value.string ByteArray.empty, Value.int .i64 0, Value.slice none 0 0, Value.slice none 0 0, Value.slice none 0 0, Value.slice none 0 0]) rfl rfl rfl rfl rfl rfl).trans ?_
  refine (fill_step (off := 1) (size := 1) (es := [.string b]) (pre := [.string a]) (old := [Value.string ByteArray.empty]) (post := [Value.string ByteArray.empty, Value.int .i64 0, Value.slice none 0 0, Value.slice none 0 0, Value.slice none 0 0, Value.slice none 0 0]) rfl rfl rfl rfl rfl rfl).trans ?_
  refine (fill_step (off := 2) (size := 1) (es := [.string c]) (pre := [.string a, .string b]) (old := [Value.string ByteArray.empty]) (post := [Value.int .i64 0, Value.slice none 0 0, Value.slice none 0 0, Value.slice none 0 0, Value.slice none 0 0]) rfl rfl rfl rfl rfl rfl).trans ?_
  refine (fill_step (off := 3) (size := 1) (es := [.int .i64 k]) (pre := [.string a, .string b, .string c]) (old := [Value.int .i64 0]) (post := [Value.slice none 0 0, Value.slice none 0 0, Value.slice none 0 0, Value.slice none 0 0]) rfl rfl rfl rfl rfl rfl).trans ?_
  refine (fill_step (off := 6) (size := 1) (es := [.slice m.A m.n m.c]) (pre := [.string a, .string b, .string c, .int .i64 k, Value.slice none 0 0, Value.slice none 0 0]) (old := [Value.slice none 0 0]) (post := [Value.slice none 0 0]) rfl rfl rfl rfl rfl rfl).trans ?_
  refine (fill_step (off := 7) (size := 1) (es := [.slice p.A p.n p.c]) (pre := [.string a, .string b, .string c, .int .i64 k, Value.slice none 0 0, Value.slice none 0 0, .slice m.A m.n m.c]) (old := [Value.slice none 0 0]) (post := []) rfl rfl rfl rfl rfl rfl).trans ?_
  rfl
theorem fill_var (a b : ByteArray) : Instr.fill (#[(0, 1), (1, 1)][·]?) varZ.toArray [(0, .string a), (1, .string b)] = some (varC ⟨a, b⟩).toArray := by
  refine (fill_step (off := 0) (size := 1) (es := [.string a]) (pre := []) (old := [.string ByteArray.empty]) (post := [.string ByteArray.empty]) rfl rfl rfl rfl rfl rfl).trans ?_
  refine (fill_step (off := 1) (size := 1) (es := [.string b]) (pre := [.string a]) (old := [.string ByteArray.empty]) (post := []) rfl rfl rfl rfl rfl rfl).trans ?_
  rfl
theorem recC_one (x : Rec) (sc se sm sp : Sl) : ∀ v ∈ recC x sc se sm sp, v.oneCell' = true := by
  intro v hv
  simp only [recC, List.mem_cons, List.mem_nil_iff, or_false] at hv
  rcases hv with rfl | rfl | rfl | rfl | rfl | rfl | rfl | rfl <;> rfl
end Go.AdR
namespace Go.Proofs.YtjdinakdkdjocaaGreatDoor
open Go Go.RowKit Go.Adm Go.AdR
theorem el_var2 : ElemOf Tryz.prog 28 49 (.agg varZ.toArray) 2 32 := ElemOf.mk' Tryz.underlying28 (by kernel_rfl) rfl (by decide) (by decide)
theorem el_strM : ElemOf Tryz.prog 27 9 (.string ByteArray.empty) 1 16 := ElemOf.mk' Tryz.underlying27 (by kernel_rfl) rfl (by decide) (by decide)
set_option maxHeartbeats 12800000 in
theorem made_any (w : World) (gt B : Nat) (A : Option Addr) (nl cl at_ : Nat) (L : List Int) (hc : Cells w gt 35 [.slice A nl cl, .int .i64 at_]) (hL : Rd w B 1 A nl (L.map iv)) (hB : B ≤ gt) (hat : at_ ≤ 10000) :
    Calls Tryz.prog 6 #[.pointer (some ⟨gt, 0, none⟩)] w fun e w' => ∃ (x : Rec) (sc se sm sp : Sl) (m : Nat), e = .returned (.agg (recC x sc se sm sp).toArray) ∧ RecOwn 9 49 70 w' (gt + 1) x sc se sm sp ∧ MadeOk x ∧ m ≤ 1000 ∧ TapeTo gt A nl cl (at_ + m) w w' := by
  have hlt := Cells.lt hc
  have HL : Hid (∀ W, w.grownBy W (some gt) → Rd W B 1 A nl (L.map iv)) := Lib.hid (fun W hg => hL.keep fun p hp => World.cell?_of_block (hg.block p.block (by omega) (fun e => by have := Option.some.inj e; omega)))
  have hR : All w [tapeC gt A nl cl at_, keptG w gt, .kept w gt] := ⟨hc, keptG.of ⟨rfl, rfl, rfl, Nat.le_refl _, fun _ _ _ => rfl⟩, ⟨Below.refl _ _, Nat.le_of_lt hlt⟩, trivial⟩
  clear hc hL
  have hzr := zero_rec
  have hzl := zero_link
  go_enter Tryz.func6, Tryz.ntmps6
  go_upto_region 1 with (fail)
  refine wp_gen (hR.new (l := recZ) recZ.toArray 31 rfl rfl) ?_
  intro W hW
  clear hR
  have hg0 := keptG.grown (hW.at_ 3 rfl) (hW.at_ 2 rfl)
  have hlink := TLink_any W gt B A nl cl at_ L (hW.at_ 1 rfl) (HL.out _ hg0) hB (by omega) ⟨#[]⟩
  have hsW := Cells.lt (hW.at_ 0 rfl)
  go_upto_region 2 with (first
    | (go_at_call 17; refine hlink.mono ?_; clear hlink; rintro e w2 ⟨la, pa, ca, lb, pb, cb, m1, hla, hlb, hm1, hgla, hglb, rfl, howna, hownb, hc2, hg2⟩; have hs2 := hg2.size; have hW2 : All w2 [.own (gt + 1) 70 33 pb lb.length cb (lb.map entC).flatten, .own (gt + 1) 70 33 pa la.length ca (la.map entC).flatten, .cells w.heap.size 31 recZ, tapeC gt A nl cl (at_ + m1), keptG w gt, .kept w gt] := ⟨hownb, howna, All.upd hg2 1 (tapeC gt A nl cl (at_ + m1)) hW hc2 ⟨fun e => by injection e with e; omega, keptG.apart (.inl rfl), fun g e => by injection e with e; omega, trivial⟩⟩)
    | (refine wl_store_at (hW2.new (l := linkZ) linkZ.toArray 53 rfl rfl) 0 rfl 53 (.tmp 3) (.tmp 7) rfl w2.heap.size _ linkZ [.string ⟨#[]⟩, .slice pa la.length ca, .slice pb lb.length cb] rfl rfl rfl rfl (by kernel_rfl) (by intro v hv; simp only [List.mem_cons, List.mem_nil_iff, or_false] at hv; rcases hv with rfl | rfl | rfl <;> rfl) ⟨fun g e => .inr (by injection e with e; subst e; exact Own.ne (hW2.at_ 0 rfl)), fun g e => .inr (by injection e with e; subst e; exact Own.ne (hW2.at_ 1 rfl)), fun e => by injection e with e; omega, fun e => by injection e with e; omega, keptG.apart (.inr (by omega)), fun g e => by injection e with e; omega, trivial⟩ ?_; intro w3 hW3 hs3))
  simp only [List.set_cons_zero] at hW3
  obtain ⟨gl, hgl⟩ : ∃ g, g = w2.heap.size := ⟨_, rfl⟩
  rw [← hgl] at hW3 ⊢
  have hgl2 : w.heap.size < gl := by omega
  have hT0 : All w3 [tapeC gt A nl cl (at_ + m1 + 0), .cells gl 53 [.string ⟨#[]⟩, .slice pa la.length ca, .slice pb lb.length cb], .own (gt + 1) 70 33 pb lb.length cb (lb.map entC).flatten, .own (gt + 1) 70 33 pa la.length ca (la.map entC).flatten, .cells w.heap.size 31 recZ, keptG w gt, .kept w gt] := ⟨hW3.at_ 4 rfl, hW3.at_ 0 rfl, hW3.at_ 1 rfl, hW3.at_ 2 rfl, hW3.at_ 3 rfl, hW3.at_ 5 rfl, hW3.at_ 6 rfl, trivial⟩
  have hap : Hid (Apart (some gt) [.cells gl 53 [.string ⟨#[]⟩, .slice pa la.length ca, .slice pb lb.length cb], .own (gt + 1) 70 33 pb lb.length cb (lb.map entC).flatten, .own (gt + 1) 70 33 pa la.length ca (la.map entC).flatten, .cells w.heap.size 31 recZ, keptG w gt, .kept w gt]) := Lib.hid ⟨fun e => by injection e with e; omega, fun g e => .inl (by injection e with e; omega), fun g e => .inl (by injection e with e; omega), fun e => by injection e with e; omega, keptG.apart (.inl rfl), fun g e => by injection e with e; omega, trivial⟩
  clear hW3 hW2 hs3 hs2 hgl howna hownb hc2 hg2 hg0 hsW hW
  obtain ⟨at1, hat1⟩ : ∃ k, k = at_ + m1 := ⟨_, rfl⟩
  rw [← hat1] at hT0
  have hat1' : at1 ≤ 20000 := by omega
  refine wp_region_tape 17 [8, 9, 10, 11, 12, 13, 14, 15, 16, 17, 18, 19, 20, 21, 22, 23, 4] gt (fun c W => All W [tapeC gt A nl cl (at1 + c), .cells gl 53 [.string ⟨#[]⟩, .slice pa la.length ca, .slice pb lb.length cb], .own (gt + 1) 70 33 pb lb.length cb (lb.map entC).flatten, .own (gt + 1) 70 33 pa la.length ca (la.map entC).flatten, .cells w.heap.size 31 recZ, keptG w gt, .kept w gt]) (TF.at [TF.eq (.pointer (some ⟨gt, 0, none⟩)), TF.lit 9 3 (runL.map sv), TF.pure (fun v => ∃ s ∈ runL, v = .string s), TF.eq (.pointer (some ⟨gt, 0, none⟩)), TF.lit 9 4 (scopeL.map sv), TF.pure (fun v => ∃ s ∈ scopeL, v = .string s), TF.eq (.pointer (some ⟨gt, 0, none⟩)), TF.lit 9 2 (stepL.map sv), TF.pure (fun v => ∃ s ∈ stepL, v = .string s), TF.eq (.pointer (some ⟨gt, 0, none⟩)), TF.pure (fun v => ∃ k : Nat, k < 50 ∧ v = .int .i64 k), TF.eq (.pointer (some ⟨gl, 1, none⟩)), TF.eq (.slice pa la.length ca), TF.eq (.pointer (some ⟨gl, 2, none⟩)), TF.eq (.slice pb lb.length cb), TF.pure (fun v => ∃ (s1 s2 s3 : ByteArray) (k : Nat), s1 ∈ runL ∧ s2 ∈ scopeL ∧ s3 ∈ stepL ∧ k < 50 ∧ v = .agg (recC ⟨s1, s2, s3, k, [], [], la, lb⟩ ⟨none, 0, 0⟩ ⟨none, 0, 0⟩ ⟨pa, la.length, ca⟩ ⟨pb, lb.length, cb⟩).toArray), TF.box 31 w.heap.size recZ])
    (by kernel_rfl) (by kernel_rfl) (TF.keep _) hT0.drew rfl ?hops ?fin
  case hops =>
    refine ⟨?_, ?_, ?_, ?_, ?_, ?_, ?_, ?_, ?_, ?_, ?_, ?_, ?_, ?_, ?_, ?_, ?_, trivial⟩
    · refine ⟨rfl, ?_⟩
      intro a W c hT hcn hb hd K hK
      have b0 := hb 0 rfl
      go_simp
      exact hK _ _ c (Nat.le_succ _) hT (World.grownBy.refl _ _) rfl
    · refine ⟨rfl, ?_⟩
      intro a W c hT hcn hb hd K hK
      have hgl := Cells.lt (hT.at_ 0 rfl : Cells W gt _ _)
      go_simp
      exact hK _ _ c (Nat.le_succ _) (hT.alloc _) (World.grownBy_alloc _ _ _) ⟨W.heap.size, rfl, by omega, Cells.new' W 9 _ rfl rfl⟩
    · refine ⟨rfl, ?_⟩
      intro a W c hT hcn hb hd K hK
      have b8 : a.tmps[8]?.getD undef = _ := hd ⟨0, .data⟩ (by simp) rfl
      obtain ⟨g9, b9, hne9, hc9⟩ : ∃ g, a.tmps[9]?.getD undef = .slice (some ⟨g, 0, none⟩) 3 3 ∧ g ≠ gt ∧ Cells W g 9 (runL.map sv) := hd ⟨1, .data⟩ (by simp) rfl
      go_simp
      refine (Pick_any W gt B A nl cl (at1 + c) L (hT.at_ 0 rfl) (HL.out _ (keptG.grown (hT.at_ 6 rfl) (hT.at_ 5 rfl))) hB (by omega) runL g9 3 9 hc9 hne9 (by decide) (by decide) 3 rfl).mono ?_
      rintro e w' ⟨s, hs, rfl, hc', hg'⟩
      exact hK _ _ (c + 1) (Nat.le_refl _) (All.upd hg' 0 (tapeC gt A nl cl (at1 + c + 1)) hT hc' hap.out) hg' ⟨s, hs, rfl⟩
    · refine ⟨rfl, ?_⟩
      intro a W c hT hcn hb hd K hK
      have b0 := hb 0 rfl
      go_simp
      exact hK _ _ c (Nat.le_succ _) hT (World.grownBy.refl _ _) rfl
    · refine ⟨rfl, ?_⟩
      intro a W c hT hcn hb hd K hK
      have hgl := Cells.lt (hT.at_ 0 rfl : Cells W gt _ _)
      go_simp
      exact hK _ _ c (Nat.le_succ _) (hT.alloc _) (World.grownBy_alloc _ _ _) ⟨W.heap.size, rfl, by omega, Cells.new' W 9 _ rfl rfl⟩
    · refine ⟨rfl, ?_⟩
      intro a W c hT hcn hb hd K hK
      have b11 : a.tmps[11]?.getD undef = _ := hd ⟨3, .data⟩ (by simp) rfl
      obtain ⟨g9, b12, hne9, hc9⟩ : ∃ g, a.tmps[12]?.getD undef = .slice (some ⟨g, 0, none⟩) 4 4 ∧ g ≠ gt ∧ Cells W g 9 (scopeL.map sv) := hd ⟨4, .data⟩ (by simp) rfl
      go_simp
      refine (Pick_any W gt B A nl cl (at1 + c) L (hT.at_ 0 rfl) (HL.out _ (keptG.grown (hT.at_ 6 rfl) (hT.at_ 5 rfl))) hB (by omega) scopeL g9 4 9 hc9 hne9 (by decide) (by decide) 4 rfl).mono ?_
      rintro e w' ⟨s, hs, rfl, hc', hg'⟩
      exact hK _ _ (c + 1) (Nat.le_refl _) (All.upd hg' 0 (tapeC gt A nl cl (at1 + c + 1)) hT hc' hap.out) hg' ⟨s, hs, rfl⟩
    · refine ⟨rfl, ?_⟩
      intro a W c hT hcn hb hd K hK
      have b0 := hb 0 rfl
      go_simp
      exact hK _ _ c (Nat.le_succ _) hT (World.grownBy.refl _ _) rfl
    · refine ⟨rfl, ?_⟩
      intro a W c hT hcn hb hd K hK
      have hgl := Cells.lt (hT.at_ 0 rfl : Cells W gt _ _)
      go_simp
      exact hK _ _ c (Nat.le_succ _) (hT.alloc _) (World.grownBy_alloc _ _ _) ⟨W.heap.size, rfl, by omega, Cells.new' W 9 _ rfl rfl⟩
    · refine ⟨rfl, ?_⟩
      intro a W c hT hcn hb hd K hK
      have b14 : a.tmps[14]?.getD undef = _ := hd ⟨6, .data⟩ (by simp) rfl
      obtain ⟨g9, b15, hne9, hc9⟩ : ∃ g, a.tmps[15]?.getD undef = .slice (some ⟨g, 0, none⟩) 2 2 ∧ g ≠ gt ∧ Cells W g 9 (stepL.map sv) := hd ⟨7, .data⟩ (by simp) rfl
      go_simp
      refine (Pick_any W gt B A nl cl (at1 + c) L (hT.at_ 0 rfl) (HL.out _ (keptG.grown (hT.at_ 6 rfl) (hT.at_ 5 rfl))) hB (by omega) stepL g9 2 9 hc9 hne9 (by decide) (by decide) 2 rfl).mono ?_
      rintro e w' ⟨s, hs, rfl, hc', hg'⟩
      exact hK _ _ (c + 1) (Nat.le_refl _) (All.upd hg' 0 (tapeC gt A nl cl (at1 + c + 1)) hT hc' hap.out) hg' ⟨s, hs, rfl⟩
    · refine ⟨rfl, ?_⟩
      intro a W c hT hcn hb hd K hK
      have b0 := hb 0 rfl
      go_simp
      exact hK _ _ c (Nat.le_succ _) hT (World.grownBy.refl _ _) rfl
    · refine ⟨rfl, ?_⟩
      intro a W c hT hcn hb hd K hK
      have b17 : a.tmps[17]?.getD undef = _ := hd ⟨9, .data⟩ (by simp) rfl
      go_simp
      refine (Next_any W gt B A nl cl (at1 + c) 50 L (hT.at_ 0 rfl) (HL.out _ (keptG.grown (hT.at_ 6 rfl) (hT.at_ 5 rfl))) hB (by decide) (by decide) (by omega)).mono ?_
      rintro e w' ⟨k, hk, rfl, hc', hg'⟩
      exact hK _ _ (c + 1) (Nat.le_refl _) (All.upd hg' 0 (tapeC gt A nl cl (at1 + c + 1)) hT hc' hap.out) hg' ⟨k, hk, rfl⟩
    · refine ⟨rfl, ?_⟩
      intro a W c hT hcn hb hd K hK
      have b3 := hb 3 rfl
      go_simp
      exact hK _ _ c (Nat.le_succ _) hT (World.grownBy.refl _ _) rfl
    · refine ⟨rfl, ?_⟩
      intro a W c hT hcn hb hd K hK
      have b19 : a.tmps[19]?.getD undef = _ := hd ⟨11, .data⟩ (by simp) rfl
      have cc := cell_of (hT.at_ 1 rfl) (i := 1) rfl
      go_simp
      exact hK _ _ c (Nat.le_succ _) hT (World.grownBy.refl _ _) rfl
    · refine ⟨rfl, ?_⟩
      intro a W c hT hcn hb hd K hK
      have b3 := hb 3 rfl
      go_simp
      exact hK _ _ c (Nat.le_succ _) hT (World.grownBy.refl _ _) rfl
    · refine ⟨rfl, ?_⟩
      intro a W c hT hcn hb hd K hK
      have b21 : a.tmps[21]?.getD undef = _ := hd ⟨13, .data⟩ (by simp) rfl
      have cc := cell_of (hT.at_ 1 rfl) (i := 2) rfl
      go_simp
      exact hK _ _ c (Nat.le_succ _) hT (World.grownBy.refl _ _) rfl
    · refine ⟨rfl, ?_⟩
      intro a W c hT hcn hb hd K hK
      obtain ⟨s1, hs1, b10⟩ : ∃ s ∈ runL, a.tmps[10]?.getD undef = .string s := hd ⟨2, .data⟩ (by simp) rfl
      obtain ⟨s2, hs2, b13⟩ : ∃ s ∈ scopeL, a.tmps[13]?.getD undef = .string s := hd ⟨5, .data⟩ (by simp) rfl
      obtain ⟨s3, hs3, b16⟩ : ∃ s ∈ stepL, a.tmps[16]?.getD undef = .string s := hd ⟨8, .data⟩ (by simp) rfl
      obtain ⟨k, hk, b18⟩ : ∃ k : Nat, k < 50 ∧ a.tmps[18]?.getD undef = .int .i64 k := hd ⟨10, .data⟩ (by simp) rfl
      have b20 : a.tmps[20]?.getD undef = _ := hd ⟨12, .data⟩ (by simp) rfl
      have b22 : a.tmps[22]?.getD undef = _ := hd ⟨14, .data⟩ (by simp) rfl
      refine wp_build_at 31 [(0, .tmp 10), (1, .tmp 13), (2, .tmp 16), (3, .tmp 18), (6, .tmp 20), (7, .tmp 22)] rfl _ _ #[(0, 1), (1, 1), (2, 1), (3, 1), (4, 1), (5, 1), (6, 1), (7, 1)] (recC ⟨s1, s2, s3, k, [], [], la, lb⟩ ⟨none, 0, 0⟩ ⟨none, 0, 0⟩ ⟨pa, la.length, ca⟩ ⟨pb, lb.length, cb⟩).toArray zero_rec Tryz.underlying31 (fun w => by kernel_rfl) ?_ ?_
      · simp only [List.map_cons, List.map_nil, Act.eval, Array.getD_eq_getD_getElem?, b10, b13, b16, b18, b20, b22]
        exact fill_rec s1 s2 s3 k ⟨pa, la.length, ca⟩ ⟨pb, lb.length, cb⟩
      exact hK _ _ c (Nat.le_succ _) hT (World.grownBy.refl _ _) ⟨s1, s2, s3, k, hs1, hs2, hs3, hk, rfl⟩
    · refine ⟨rfl, ?_⟩
      intro a W c hT hcn hb hd K hK
      have hgl := Cells.lt (hT.at_ 0 rfl : Cells W gt _ _)
      have hgx := Cells.lt (hT.at_ 4 rfl)
      go_simp
      exact hK _ _ c (Nat.le_succ _) (hT.alloc _) (World.grownBy_alloc _ _ _) ⟨W.heap.size, rfl, by omega, by omega, Cells.new' W 31 _ rfl rfl⟩
  case fin =>
    intro vs V c0 hcn hV hv
    obtain ⟨s1, s2, s3, k, hs1, hs2, hs3, hk, e15⟩ : ∃ (s1 s2 s3 : ByteArray) (k : Nat), s1 ∈ runL ∧ s2 ∈ scopeL ∧ s3 ∈ stepL ∧ k < 50 ∧ vs 15 = .agg (recC ⟨s1, s2, s3, k, [], [], la, lb⟩ ⟨none, 0, 0⟩ ⟨none, 0, 0⟩ ⟨pa, la.length, ca⟩ ⟨pb, lb.length, cb⟩).toArray := hv 15 (by decide)
    obtain ⟨g4, e16, hg4, hg4t, hc4⟩ : ∃ g, vs 16 = .pointer (some ⟨g, 0, none⟩) ∧ w.heap.size < g ∧ g ≠ gt ∧ Cells V g 31 recZ := hv 16 (by decide)
    clear hv hT0
    simp only [putAll, Nat.zero_add, Nat.reduceAdd, List.drop_succ_cons, List.drop_zero, e15, e16, Act.put, List.setIfInBounds_toArray, List.set_cons_succ, List.set_cons_zero]
    clear e15 e16
    have hgl4 : g4 ≠ gl := cells_ne hc4 (hV.at_ 1 rfl) (by decide)
    have hV1 := hV.cons (r := .cells g4 31 recZ) hc4
    obtain ⟨x0, hx0⟩ : ∃ x : Rec, x = ⟨s1, s2, s3, k, [], [], la, lb⟩ := ⟨_, rfl⟩
    rw [← hx0]
    have HX0 := Lib.hid hx0
    clear hx0
    refine wl_store_at hV1 0 rfl 31 (.tmp 4) (.tmp 23) rfl g4 _ recZ (recC x0 ⟨none, 0, 0⟩ ⟨none, 0, 0⟩ ⟨pa, la.length, ca⟩ ⟨pb, lb.length, cb⟩) rfl rfl rfl rfl (by kernel_rfl) (recC_one _ _ _ _ _) ⟨fun e => by injection e with e; omega, fun e => by injection e with e; omega, fun g e => .inr (by injection e with e; subst e; exact own_ne_cells (hV.at_ 2 rfl) hc4 (by decide)), fun g e => .inr (by injection e with e; subst e; exact own_ne_cells (hV.at_ 3 rfl) hc4 (by decide)), fun e => by injection e with e; omega, keptG.apart (.inr (by omega)), fun g e => by injection e with e; omega, trivial⟩ ?_
    intro w5 hW5 hs5
    simp only [List.set_cons_zero] at hW5
    clear hV1 hV hc4
    obtain ⟨at2, hat2⟩ : ∃ k, k = at1 + c0 := ⟨_, rfl⟩
    have hX : All w5 [tapeC gt A nl cl (at2), .cells g4 31 (recC x0 (⟨none, 0, 0⟩ : Sl) ⟨none, 0, 0⟩ ⟨pa, la.length, ca⟩ ⟨pb, lb.length, cb⟩), .own w.heap.size 9 1 (⟨none, 0, 0⟩ : Sl).A (⟨none, 0, 0⟩ : Sl).n (⟨none, 0, 0⟩ : Sl).c ([]), .own (gt + 1) 70 33 pb lb.length cb (lb.map entC).flatten, .own (gt + 1) 70 33 pa la.length ca (la.map entC).flatten, .cells w.heap.size 31 recZ, keptG w gt, .kept w gt] := ⟨by have := hW5.at_ 1 rfl; rw [hat2]; exact this, hW5.at_ 0 rfl, Go.Adm.Own.nil _ _ _ _, hW5.at_ 3 rfl, hW5.at_ 4 rfl, hW5.at_ 5 rfl, hW5.at_ 6 rfl, hW5.at_ 7 rfl, trivial⟩
    have hapx : ∀ (cs : List Value) (A' : Option Addr) (n' c' : Nat) (xs : List Value), Apart (some gt) [.cells g4 31 cs, .own w.heap.size 9 1 A' n' c' xs, .own (gt + 1) 70 33 pb lb.length cb (lb.map entC).flatten, .own (gt + 1) 70 33 pa la.length ca (la.map entC).flatten, .cells w.heap.size 31 recZ, keptG w gt, .kept w gt] := fun cs A' n' c' xs => ⟨fun e => by injection e with e; omega, fun g e => .inl (by injection e with e; omega), fun g e => .inl (by injection e with e; omega), fun g e => .inl (by injection e with e; omega), fun e => by injection e with e; omega, keptG.apart (.inl rfl), fun g e => by injection e with e; omega, trivial⟩
    have HAPX := Lib.hid hapx
    have hat2' : at2 ≤ 30000 := by omega
    clear hW5 hap hs5 hapx hat1'
    go_upto_region 4 with (go_at_call 19; refine (Next_any w5 gt B A nl cl at2 4 L (hX.at_ 0 rfl) (HL.out _ (keptG.grown (hX.at_ 7 rfl) (hX.at_ 6 rfl))) hB (by decide) (by decide) (by omega)).mono ?_; rintro e w6 ⟨k6, hk6, rfl, hc6, hg6⟩)
    have hX6 := All.upd hg6 0 (tapeC gt A nl cl (at2 + 1)) hX hc6 (HAPX.out _ _ _ _ _)
    simp only [List.set_cons_zero] at hX6
    clear hX hc6 hg6
    obtain ⟨at3, hat3⟩ : ∃ k, k = at2 + 1 := ⟨_, rfl⟩
    rw [← hat3] at hX6
    have hat3' : at3 ≤ 30001 := by omega

    go_loopw [5] (fun i wr => ∃ (j m : Nat) (cmd : List ByteArray) (sc : Sl), i = .int .i64 (j : Int) ∧ j + cmd.length ≤ 3 ∧ m + 10 * j ≤ 30 ∧ (∀ s ∈ cmd, s ∈ cmdL) ∧ sc.n = cmd.length ∧ All wr [tapeC gt A nl cl (at3 + m), .cells g4 31 (recC x0 sc ⟨none, 0, 0⟩ ⟨pa, la.length, ca⟩ ⟨pb, lb.length, cb⟩), .own w.heap.size 9 1 sc.A sc.n sc.c (cmd.map sv), .own (gt + 1) 70 33 pb lb.length cb (lb.map entC).flatten, .own (gt + 1) 70 33 pa la.length ca (la.map entC).flatten, .cells w.heap.size 31 recZ, keptG w gt, .kept w gt]) (fun i _ => (intOf i).toNat)
    case atStart => exact ⟨k6, 0, [], ⟨none, 0, 0⟩, rfl, by simp; omega, by omega, by simp, rfl, hX6⟩
    case round =>
      obtain ⟨j, m, cmd, sc, rfl, hjc, hjm, hcm, hsn, hI⟩ := hrel
      have HSN := Lib.hid hsn
      clear hsn
      clear hX6
      by_cases hj : 0 < j
      · have d1 : decide (0 < (j : Int)) = true := by simp; omega
        have d2 : decide (0 < j) = true := by simp; omega
        have wj : IntKind.i64.wrap ((j : Int) - 1) = ((j - 1 : Nat) : Int) := by rw [IntWalk.i64_in _ (by omega)]; omega
        have hapl := Lib.hid (HAPX.out ((recC x0 sc ⟨none, 0, 0⟩ ⟨pa, la.length, ca⟩ ⟨pb, lb.length, cb⟩)) sc.A sc.n sc.c (cmd.map sv))
        go_upto_region 6 with (fail)
        refine wp_region_tape 6 [30, 31, 32, 33, 34, 35] gt (fun c W => All W [tapeC gt A nl cl (at3 + m + c), .cells g4 31 (recC x0 sc ⟨none, 0, 0⟩ ⟨pa, la.length, ca⟩ ⟨pb, lb.length, cb⟩), .own w.heap.size 9 1 sc.A sc.n sc.c (cmd.map sv), .own (gt + 1) 70 33 pb lb.length cb (lb.map entC).flatten, .own (gt + 1) 70 33 pa la.length ca (la.map entC).flatten, .cells w.heap.size 31 recZ, keptG w gt, .kept w gt]) (TF.at [TF.eq (.pointer (some ⟨g4, 4, none⟩)), TF.eq (.slice sc.A sc.n sc.c), TF.eq (.pointer (some ⟨gt, 0, none⟩)), TF.lit 9 4 (cmdL.map sv), TF.pure (fun v => ∃ s ∈ cmdL, v = .string s), TF.lits 9 1 (fun cs => ∃ s ∈ cmdL, cs = [.string s])])
          (by kernel_rfl) (by kernel_rfl) (TF.keep _) hI.drew rfl ?hops ?fin
        case hops =>
          refine ⟨?_, ?_, ?_, ?_, ?_, ?_, trivial⟩
          · refine ⟨rfl, ?_⟩
            intro a W c hT hcn hb hd K hK
            have b4 := hb 4 rfl
            go_simp
            exact hK _ _ c (Nat.le_succ _) hT (World.grownBy.refl _ _) rfl
          · refine ⟨rfl, ?_⟩
            intro a W c hT hcn hb hd K hK
            have b30 : a.tmps[30]?.getD undef = _ := hd ⟨0, .data⟩ (by simp) rfl
            have cc := cell_of (hT.at_ 1 rfl) (i := 4) rfl
            go_simp
            exact hK _ _ c (Nat.le_succ _) hT (World.grownBy.refl _ _) rfl
          · refine ⟨rfl, ?_⟩
            intro a W c hT hcn hb hd K hK
            have b0 := hb 0 rfl
            go_simp
            exact hK _ _ c (Nat.le_succ _) hT (World.grownBy.refl _ _) rfl
          · refine ⟨rfl, ?_⟩
            intro a W c hT hcn hb hd K hK
            have hgl := Cells.lt (hT.at_ 0 rfl : Cells W gt _ _)
            go_simp
            exact hK _ _ c (Nat.le_succ _) (hT.alloc _) (World.grownBy_alloc _ _ _) ⟨W.heap.size, rfl, by omega, Cells.new' W 9 _ rfl rfl⟩
          · refine ⟨rfl, ?_⟩
            intro a W c hT hcn hb hd K hK
            have b32 : a.tmps[32]?.getD undef = _ := hd ⟨2, .data⟩ (by simp) rfl
            obtain ⟨g9, b33, hne9, hc9⟩ : ∃ g, a.tmps[33]?.getD undef = .slice (some ⟨g, 0, none⟩) 4 4 ∧ g ≠ gt ∧ Cells W g 9 (cmdL.map sv) := hd ⟨3, .data⟩ (by simp) rfl
            go_simp
            refine (Pick_any W gt B A nl cl (at3 + m + c) L (hT.at_ 0 rfl) (HL.out _ (keptG.grown (hT.at_ 7 rfl) (hT.at_ 6 rfl))) hB (by omega) cmdL g9 4 9 hc9 hne9 (by decide) (by decide) 4 rfl).mono ?_
            rintro e w' ⟨s, hs, rfl, hc', hg'⟩
            exact hK _ _ (c + 1) (Nat.le_refl _) (All.upd hg' 0 (tapeC gt A nl cl (at3 + m + c + 1)) hT hc' hapl.out) hg' ⟨s, hs, rfl⟩
          · refine ⟨rfl, ?_⟩
            intro a W c hT hcn hb hd K hK
            obtain ⟨s, hs, b34⟩ : ∃ s ∈ cmdL, a.tmps[34]?.getD undef = .string s := hd ⟨4, .data⟩ (by simp) rfl
            have hgl := Cells.lt (hT.at_ 0 rfl : Cells W gt _ _)
            go_simp
            exact hK _ _ c (Nat.le_succ _) (hT.alloc _) (World.grownBy_alloc _ _ _) ⟨W.heap.size, [.string s], rfl, by omega, ⟨s, hs, rfl⟩, Cells.new' W 9 _ rfl rfl⟩
        case fin =>
          intro vs V c hcn hV hv
          have e1 : vs 1 = .slice sc.A sc.n sc.c := hv 1 (by decide)
          obtain ⟨g9, cs9, e5, hne9, ⟨s, hs, rfl⟩, hc9⟩ : ∃ (g : Nat) (cs : List Value), vs 5 = .slice (some ⟨g, 0, none⟩) 1 1 ∧ g ≠ gt ∧ (∃ s ∈ cmdL, cs = [.string s]) ∧ Cells V g 9 cs := hv 5 (by decide)
          clear hv hI
          simp only [putAll, Nat.zero_add, Nat.reduceAdd, List.drop_succ_cons, List.drop_zero, e1, e5, Act.put, List.setIfInBounds_toArray, List.set_cons_succ, List.set_cons_zero]
          clear e1 e5
          have hown := (hV.at_ 2 rfl : Go.Adm.Own V w.heap.size 9 1 sc.A sc.n sc.c (cmd.map sv))
          have hlw := Cells.lt (hV.at_ 5 rfl)
          refine wl_app_at el_strM hV 2 rfl (.tmp 31) (.tmp 35) rfl w.heap.size sc.A sc.n sc.c (cmd.map sv) rfl rfl (g9 + 1) (some ⟨g9, 0, none⟩) 1 1 [.string s] rfl (Cells.rd hc9 (o := 0) (n := 1) (by simp)) (by intro u hu; simp only [List.mem_singleton] at hu; subst hu; rfl) (by have := HSN.out; omega) (by omega) (fun g hg he => ⟨fun e => by injection e with e; omega, fun e => own_ne_cells hown (hV.at_ 1 rfl) (by decide) (by rw [he, ← e]), fun g' e => .inr (by injection e with e; subst e; exact own_ne_own (hV.at_ 3 rfl) hown (by decide) he), fun g' e => .inr (by injection e with e; subst e; exact own_ne_own (hV.at_ 4 rfl) hown (by decide) he), fun e => own_ne_cells hown (hV.at_ 5 rfl) (by decide) (by rw [he, ← e]), keptG.apart (.inr hg), fun g' e => by injection e with e; omega, trivial⟩) ?_
          intro A7 c7 w7 hI7 hs7
          simp only [List.set_cons_succ, List.set_cons_zero] at hI7
          have c4 := cell_of (hI7.at_ 1 rfl) (i := 4) rfl
          have f4 := Cells.frozen (hI7.at_ 1 rfl) 4
          have hI8 : All (w7.setCell ⟨g4, 4, none⟩ (.slice A7 (sc.n + 1) c7)) [tapeC gt A nl cl (at3 + (m + c)), .cells g4 31 (recC x0 (⟨A7, sc.n + 1, c7⟩ : Sl) ⟨none, 0, 0⟩ ⟨pa, la.length, ca⟩ ⟨pb, lb.length, cb⟩), .own w.heap.size 9 1 (⟨A7, sc.n + 1, c7⟩ : Sl).A (⟨A7, sc.n + 1, c7⟩ : Sl).n (⟨A7, sc.n + 1, c7⟩ : Sl).c ((cmd ++ [s]).map sv), .own (gt + 1) 70 33 pb lb.length cb (lb.map entC).flatten, .own (gt + 1) 70 33 pa la.length ca (la.map entC).flatten, .cells w.heap.size 31 recZ, keptG w gt, .kept w gt] := by
            rw [← Nat.add_assoc, List.map_append]
            exact All.store hI7 1 rfl 4 (.slice A7 (sc.n + 1) c7) ⟨fun e => by injection e with e; omega, fun g e => .inr (by injection e with e; subst e; exact own_ne_cells (hI7.at_ 2 rfl) (hI7.at_ 1 rfl) (by decide)), fun g e => .inr (by injection e with e; subst e; exact own_ne_cells (hI7.at_ 3 rfl) (hI7.at_ 1 rfl) (by decide)), fun g e => .inr (by injection e with e; subst e; exact own_ne_cells (hI7.at_ 4 rfl) (hI7.at_ 1 rfl) (by decide)), fun e => by injection e with e; omega, keptG.apart (.inr (by omega)), fun g e => by injection e with e; omega, trivial⟩
          clear hI7 hV hown hc9
          go_wp2_with fail
          exact ⟨⟨j - 1, m + c, cmd ++ [s], ⟨A7, sc.n + 1, c7⟩, rfl, by rw [List.length_append]; simp; omega, by omega, fun u hu => (List.mem_append.1 hu).elim (hcm u) (fun h => by rw [List.mem_singleton.1 h]; exact hs), by rw [List.length_append, ← HSN.out]; rfl, hI8⟩, by simp [intOf]; omega⟩
      · obtain rfl : j = 0 := by omega
        have d1 : decide ((0 : Int) < ((0 : Nat) : Int)) = false := by simp
        go_wp2_with fail
        refine (Next_any wr gt B A nl cl (at3 + m) 2 L (hI.at_ 0 rfl) (HL.out _ (keptG.grown (hI.at_ 7 rfl) (hI.at_ 6 rfl))) hB (by decide) (by decide) (by omega)).mono ?_
        rintro e w8 ⟨k8, hk8, rfl, hc8, hg8⟩
        have hX8 := All.upd hg8 0 (tapeC gt A nl cl (at3 + m + 1)) hI hc8 (HAPX.out _ _ _ _ _)
        simp only [List.set_cons_zero] at hX8
        clear hI hc8 hg8
        have HAT : Hid (at3 + m + 1 + 1 = at_ + (m1 + c0 + 1 + m + 1 + 1)) := Lib.hid (by omega)
        have HAT2 : Hid (at3 + m + 1 = at_ + (m1 + c0 + 1 + m + 1)) := Lib.hid (by omega)
        have HMK : Hid (∀ env : List Var, (∀ e ∈ env, VarOk e) → env.length ≤ 2 → (env = [] ∨ ∃ v ∈ valL, env = [⟨⟨#[99, 99]⟩, v⟩, ⟨⟨#[112, 97, 116, 104]⟩, ⟨#[120]⟩⟩]) → MadeOk ⟨s1, s2, s3, k, cmd, env, la, lb⟩) := Lib.hid (fun env he hel hsh => by
          have q1 := small_of (.inl hs1)
          have q2 := small_of (.inr (.inl hs2))
          have q3 := small_of (.inr (.inr (.inl hs3)))
          refine ⟨⟨hs1, hs2, hs3, (by show (0 : Int) ≤ (k : Int); omega), (by show (k : Int) < 50; omega), (by show cmd.length ≤ 3; omega), hcm, hsh, hgla, hla, hglb, hlb⟩, ⟨Nat.le_trans q1 (by decide), Nat.le_trans q3 (by decide), Nat.le_trans q2 (by decide), he, hgla.each, hglb.each, ?_, ?_, ?_, ?_⟩, fun s hs => Nat.le_trans (small_of (.inr (.inr (.inr (.inl (hcm s hs)))))) (by decide), ?_, ?_, ?_⟩
          · show cmd.length ≤ _; omega
          · show env.length ≤ _; omega
          · show la.length ≤ _; omega
          · show lb.length ≤ _; omega
          · show _ ≤ (k : Int); omega
          · show (k : Int) ≤ _; omega
          · show lb.length ≤ _; omega)
        by_cases hk0 : k8 = 0
        · have dk : decide ((k8 : Int) = 0) = true := by simp; omega
          have dk2 : decide (k8 = 0) = true := by simp; omega
          have hl8 := Cells.lt (hX8.at_ 0 rfl : Cells w8 gt _ _)
          go_wp2_with fail
          refine (Pick_any _ gt B A nl cl (at3 + m + 1) L ((hX8.at_ 0 rfl : Cells w8 gt _ _).alloc _) ((HL.out _ (keptG.grown (hX8.at_ 7 rfl) (hX8.at_ 6 rfl))).alloc (by omega) _) hB (by omega) valL w8.heap.size 2 9 (Cells.new' w8 9 _ rfl rfl) (by omega) (by decide) (by decide) 2 rfl).mono ?_
          rintro e w9 ⟨s9, hs9, rfl, hc9, hg9⟩
          have hX9 := All.upd hg9 0 (tapeC gt A nl cl (at3 + m + 1 + 1)) (hX8.alloc _) hc9 (HAPX.out _ _ _ _ _)
          simp only [List.set_cons_zero] at hX9
          clear hX8 hc9 hg9
          have hl9 := Cells.lt (hX9.at_ 5 rfl)
          go_wp2_with (first
            | (refine wl_build rfl 49 [(0, .const (.string ⟨#[99, 99]⟩)), (1, .tmp 43)] rfl _ _ #[(0, 1), (1, 1)] (varC ⟨⟨#[99, 99]⟩, s9⟩).toArray zero_var Tryz.underlyingVT (fun w => by kernel_rfl) ?_ ?_; exact fill_var _ _)
            | (refine wl_build rfl 49 [(0, .const (.string ⟨#[112, 97, 116, 104]⟩)), (1, .const (.string ⟨#[120]⟩))] rfl _ _ #[(0, 1), (1, 1)] (varC ⟨⟨#[112, 97, 116, 104]⟩, ⟨#[120]⟩⟩).toArray zero_var Tryz.underlyingVT (fun w => by kernel_rfl) ?_ ?_; exact fill_var _ _)
            | (refine wl_lit2 el_var2 rfl (.tmp 44) (.tmp 45) rfl (varC ⟨⟨#[99, 99]⟩, s9⟩) (varC ⟨⟨#[112, 97, 116, 104]⟩, ⟨#[120]⟩⟩) rfl rfl rfl rfl (by decide) ?_; have hX10 := (hX9.alloc (.cells (varC ⟨⟨#[99, 99]⟩, s9⟩ ++ varC ⟨⟨#[112, 97, 116, 104]⟩, ⟨#[120]⟩⟩).toArray 49)).cons (r := .own w.heap.size 49 2 (some ⟨w9.heap.size, 0, none⟩) 2 2 (varC ⟨⟨#[99, 99]⟩, s9⟩ ++ varC ⟨⟨#[112, 97, 116, 104]⟩, ⟨#[120]⟩⟩)) (Go.Adm.Own.lit w9 _ 2 (by omega) (by decide) rfl); obtain ⟨g5, hg5⟩ : ∃ g, g = w9.heap.size := ⟨_, rfl⟩; rw [← hg5] at hX10 ⊢; refine wl_gen hX10 ?_; clear hX10 hX9 hg5 hl9; intro w10 hX10; have c5 := cell_of (hX10.at_ 2 rfl) (i := 5) rfl; have f5 := Cells.frozen (hX10.at_ 2 rfl) 5; have hX11 := All.store hX10 2 rfl 5 (.slice (some ⟨g5, 0, none⟩) 2 2) ⟨fun g e => .inr (by injection e with e; subst e; exact own_ne_cells (hX10.at_ 0 rfl) (hX10.at_ 2 rfl) (by decide)), fun e => by injection e with e; omega, fun g e => .inr (by injection e with e; subst e; exact own_ne_cells (hX10.at_ 3 rfl) (hX10.at_ 2 rfl) (by decide)), fun g e => .inr (by injection e with e; subst e; exact own_ne_cells (hX10.at_ 4 rfl) (hX10.at_ 2 rfl) (by decide)), fun g e => .inr (by injection e with e; subst e; exact own_ne_cells (hX10.at_ 5 rfl) (hX10.at_ 2 rfl) (by decide)), fun e => by injection e with e; omega, keptG.apart (.inr (by omega)), fun g e => by injection e with e; omega, trivial⟩)
            | (refine wl_load_any rfl 31 (.tmp 4) rfl ⟨g4, 0, none⟩ rfl ((recC x0 sc ⟨some ⟨g5, 0, none⟩, 2, 2⟩ ⟨pa, la.length, ca⟩ ⟨pb, lb.length, cb⟩)) _ (cell_all (hX11.at_ 2 rfl)) Tryz.underlying31 rfl (by kernel_rfl) ?_)
            | (refine wl_store_at hX11 6 rfl 31 (.tmp 2) (.tmp 48) rfl w.heap.size _ recZ ((recC x0 sc ⟨some ⟨g5, 0, none⟩, 2, 2⟩ ⟨pa, la.length, ca⟩ ⟨pb, lb.length, cb⟩)) rfl rfl rfl rfl (by kernel_rfl) (recC_one _ _ _ _ _) ⟨fun g e => .inr (by injection e with e; subst e; exact own_ne_cells (hX11.at_ 0 rfl) (hX11.at_ 6 rfl) (by decide)), fun e => by injection e with e; omega, fun e => by injection e with e; omega, fun g e => .inr (by injection e with e; subst e; exact own_ne_cells (hX11.at_ 3 rfl) (hX11.at_ 6 rfl) (by decide)), fun g e => .inr (by injection e with e; subst e; exact own_ne_cells (hX11.at_ 4 rfl) (hX11.at_ 6 rfl) (by decide)), fun g e => .inr (by injection e with e; subst e; exact own_ne_cells (hX11.at_ 5 rfl) (hX11.at_ 6 rfl) (by decide)), keptG.apart (.inr (Nat.le_refl _)), fun g e => by injection e with e; omega, trivial⟩ ?_; intro w12 hX12 hs12))
          simp only [List.set_cons_succ, List.set_cons_zero] at hX12
          have hfin : Cells w12 w.heap.size 31 ((recC x0 sc ⟨some ⟨g5, 0, none⟩, 2, 2⟩ ⟨pa, la.length, ca⟩ ⟨pb, lb.length, cb⟩)) := hX12.at_ 6 rfl
          refine bodyPost_ret (results_cell_row rfl _ _ w.heap.size 31 ((recC x0 sc ⟨some ⟨g5, 0, none⟩, 2, 2⟩ ⟨pa, la.length, ca⟩ ⟨pb, lb.length, cb⟩)).toArray (0, 0) _ rfl hfin Tryz.underlying31 rfl (by kernel_rfl)) rfl ?_
          refine ⟨⟨s1, s2, s3, k, cmd, [⟨⟨#[99, 99]⟩, s9⟩, ⟨⟨#[112, 97, 116, 104]⟩, ⟨#[120]⟩⟩], la, lb⟩, sc, ⟨some ⟨g5, 0, none⟩, 2, 2⟩, ⟨pa, la.length, ca⟩, ⟨pb, lb.length, cb⟩, m1 + c0 + 1 + m + 1 + 1, ?_, ⟨(hX12.at_ 3 rfl : Go.Adm.Own w12 _ _ _ _ _ _ _).less (by omega), (hX12.at_ 0 rfl : Go.Adm.Own w12 _ _ _ _ _ _ _).less (by omega), hX12.at_ 5 rfl, hX12.at_ 4 rfl⟩, HMK.out _ ?_ (Nat.le_refl 2) (.inr ⟨s9, hs9, rfl⟩), by omega, ?_, keptG.grown (hX12.at_ 8 rfl) (hX12.at_ 7 rfl)⟩
          · rw [HX0.out]; rfl
          · intro e he
            simp only [List.mem_cons, List.mem_nil_iff, or_false] at he
            rcases he with rfl | rfl
            · exact ⟨(by decide : (⟨#[99, 99]⟩ : ByteArray).size ≤ 140737488355328), Nat.le_trans (small_of (.inr (.inr (.inr (.inr hs9))))) (by decide)⟩
            · exact ⟨(by decide : (⟨#[112, 97, 116, 104]⟩ : ByteArray).size ≤ 140737488355328), (by decide : (⟨#[120]⟩ : ByteArray).size ≤ 140737488355328)⟩
          · have h9 : Cells w12 gt _ _ := hX12.at_ 1 rfl
            rw [HAT.out] at h9
            exact h9
        · have dk : decide ((k8 : Int) = 0) = false := by simp; omega
          have dk2 : decide (k8 = 0) = false := by simp; omega
          go_wp2_with (first
            | (refine wl_load_any rfl 31 (.tmp 4) rfl ⟨g4, 0, none⟩ rfl ((recC x0 sc ⟨none, 0, 0⟩ ⟨pa, la.length, ca⟩ ⟨pb, lb.length, cb⟩)) _ (cell_all (hX8.at_ 1 rfl)) Tryz.underlying31 rfl (by kernel_rfl) ?_)
            | (refine wl_store_at hX8 5 rfl 31 (.tmp 2) (.tmp 48) rfl w.heap.size _ recZ ((recC x0 sc ⟨none, 0, 0⟩ ⟨pa, la.length, ca⟩ ⟨pb, lb.length, cb⟩)) rfl rfl rfl rfl (by kernel_rfl) (recC_one _ _ _ _ _) ⟨fun e => by injection e with e; omega, fun e => by injection e with e; omega, fun g e => .inr (by injection e with e; subst e; exact own_ne_cells (hX8.at_ 2 rfl) (hX8.at_ 5 rfl) (by decide)), fun g e => .inr (by injection e with e; subst e; exact own_ne_cells (hX8.at_ 3 rfl) (hX8.at_ 5 rfl) (by decide)), fun g e => .inr (by injection e with e; subst e; exact own_ne_cells (hX8.at_ 4 rfl) (hX8.at_ 5 rfl) (by decide)), keptG.apart (.inr (Nat.le_refl _)), fun g e => by injection e with e; omega, trivial⟩ ?_; intro w12 hX12 hs12))
          simp only [List.set_cons_succ, List.set_cons_zero] at hX12
          have hfin : Cells w12 w.heap.size 31 ((recC x0 sc ⟨none, 0, 0⟩ ⟨pa, la.length, ca⟩ ⟨pb, lb.length, cb⟩)) := hX12.at_ 5 rfl
          refine bodyPost_ret (results_cell_row rfl _ _ w.heap.size 31 ((recC x0 sc ⟨none, 0, 0⟩ ⟨pa, la.length, ca⟩ ⟨pb, lb.length, cb⟩)).toArray (0, 0) _ rfl hfin Tryz.underlying31 rfl (by kernel_rfl)) rfl ?_
          refine ⟨⟨s1, s2, s3, k, cmd, [], la, lb⟩, sc, ⟨none, 0, 0⟩, ⟨pa, la.length, ca⟩, ⟨pb, lb.length, cb⟩, m1 + c0 + 1 + m + 1, ?_, ⟨(hX12.at_ 2 rfl : Go.Adm.Own w12 _ _ _ _ _ _ _).less (by omega), Go.Adm.Own.nil _ _ _ _, hX12.at_ 4 rfl, hX12.at_ 3 rfl⟩, HMK.out _ (by simp) (Nat.zero_le _) (.inl rfl), by omega, ?_, keptG.grown (hX12.at_ 7 rfl) (hX12.at_ 6 rfl)⟩
          · rw [HX0.out]; rfl
          · have h9 : Cells w12 gt _ _ := hX12.at_ 0 rfl
            rw [HAT2.out] at h9
            exact h9
end Go.Proofs.YtjdinakdkdjocaaGreatDoor

/- Copies of envelopes. -/
import Derived.Test.YtfakjamocpamiaaEnvC
set_option linter.unusedSimpArgs false
set_option linter.unusedVariables false
set_option maxRecDepth 100000
namespace Go.Adm
open Go Go.RowKit
def envZ : List Value := envC ByteArray.empty none 0 0 none 0 0
theorem envC_one (kind : ByteArray) (Ap : Option Addr) (np cp : Nat) (As : Option Addr) (ns cs : Nat) : ∀ v ∈ envC kind Ap np cp As ns cs, v.oneCell' = true := by
 intro v hv
 simp only [envC, List.mem_cons, List.mem_nil_iff, or_false] at hv
 rcases hv with rfl | rfl | rfl <;> rfl
theorem ksn_far {w : World} {t : TypeId} {base n c b : Nat} {A : Option Addr} {l : List Ks} (h : (Res.ksn t base A n c l).ok w) (hb : w.heap.size ≤ b) : (Res.ksn t base A n c l).apart (some b) := fun q hq => by
 injection hq with hq
 subst hq
 have h' : Nest w base t 20 A n c (l.map ksC).flatten 0 (KsF l) (KsI l) := h
 refine ⟨Nat.zero_le _, .inr ⟨fun e => ?_, fun hF => ?_⟩⟩
 ·have := (h'.own.lt e).2; omega
 ·have := (h'.fr _ hF).2; omega
theorem ksn_below {t : TypeId} {base n c b : Nat} {A : Option Addr} {l : List Ks} (hb : b < base) : (Res.ksn t base A n c l).apart (some b) := fun q hq => by
 injection hq with hq
 subst hq
 exact ⟨Nat.zero_le _, .inl hb⟩
theorem KsOk.grown {w w' : World} {x : Ks} (hg : w.grownBy w' none) (h : KsOk w w.heap.size x) : KsOk w' w'.heap.size x :=
 (h.keep fun p hp => World.cell?_of_block (w := w) (hg.block _ hp (by simp))).mono hg.size
/-- a copied signature, as the value of an operation; a literal slice of it -/
def VF.dupK (b0 : Nat) (s : Sg) : VF := .gen (fun w v => ∃ x', v = .agg (ksC x').toArray ∧ x'.s = s ∧ KsOk w w.heap.size x' ∧ ∀ b, KsF [x'] b → b0 ≤ b ∧ b < w.heap.size)
 fun _ _ _ hg ⟨x', h1, h2, h3, h4⟩ => ⟨x', h1, h2, h3.grown hg, fun b hb => ⟨(h4 b hb).1, Nat.lt_of_lt_of_le (h4 b hb).2 hg.size⟩⟩
def VF.litK (t : TypeId) (b0 : Nat) (s : Sg) : VF := .gen (fun w v => ∃ x' g2, v = .slice (some ⟨g2, 0, none⟩) 1 1 ∧ b0 ≤ g2 ∧ Cells w g2 t (ksC x') ∧ x'.s = s ∧ KsOk w w.heap.size x' ∧ ∀ b, KsF [x'] b → b0 ≤ b ∧ b < w.heap.size ∧ b ≠ g2)
 fun _ _ _ hg ⟨x', g2, h1, h0, hc, h2, h3, h4⟩ => ⟨x', g2, h1, h0, hc.grown hg (by simp), h2, h3.grown hg, fun b hb => ⟨(h4 b hb).1, Nat.lt_of_lt_of_le (h4 b hb).2.1 hg.size, (h4 b hb).2.2⟩⟩
theorem own_apart {base size n c b b1 : Nat} {t : TypeId} {A : Option Addr} {xs : List Value} (h : ∀ q, (Value.slice A n c).ownBlock = some q → q < b1) (hb : b1 ≤ b) : (Res.own base t size A n c xs).apart (some b) := fun g hg => by
 injection hg with hg
 subst hg
 exact .inr (fun e => by have := h _ e; omega)
theorem cells_rd20 {w : World} {g : Nat} {t : TypeId} {x : Ks} (h : Cells w g t (ksC x)) (hx : x.r.length = 16) : Rd w w.heap.size 20 (some ⟨g, 0, none⟩) 1 (ksC x) :=
 ⟨by rw [ksC_len hx], fun _ => ⟨⟨g, 0, none⟩, rfl, h.lt, Cells.sub h 0 (fun j u h => by rwa [Nat.zero_add])⟩⟩
end Go.Adm
namespace Go.Proofs.Ytfakjamocpamiaa
open Go Go.RowKit Go.Adm
theorem zero_env (w : World) : (zeroValue 25).run Try.prog w = .ok (.agg envZ.toArray) w := by kernel_rfl
set_option maxHeartbeats 3200000 in
theorem copied_any (w : World) (B : Nat) (kind : ByteArray) (Ap : Option Addr) (np cp : Nat) (As : Option Addr) (ns cs : Nat) (p : List UInt8) (l : List Ks) (hl : Kss w B As ns l) (hp : Rd w B 1 Ap np (p.map bv)) (hnp : np ≤ 140737488355000) (hns : ns ≤ 1000000) (hbig : ∀ x ∈ l, x.chain.length ≤ 1000000 ∧ x.path.length ≤ 1000000) (hB : B ≤ w.heap.size) :
  Calls Try.prog 42 #[.agg (envC kind Ap np cp As ns cs).toArray] w fun e w' => ∃ Ap' cp' As' cs' l' b1, e = .returned (.agg (envC kind Ap' np cp' As' ns cs').toArray) ∧ l'.map Ks.s = l.map Ks.s ∧ w.heap.size ≤ b1 ∧ b1 ≤ w'.heap.size ∧ (∀ q, (Value.slice Ap' np cp').ownBlock = some q → q < b1) ∧
   All w' [.ksn 64 b1 As' ns cs' l', .own w.heap.size 5 1 Ap' np cp' (p.map bv), .kept w w.heap.size] := by
 have hR : All w [.low (.kss B As ns l), .low (.rd B 1 Ap np (p.map bv)), .kept w w.heap.size] := ⟨⟨hl, hB⟩, ⟨hp, hB⟩, ⟨Below.refl _ _, Nat.le_refl _⟩, trivial⟩
 have HN := Lib.hid hl.len
 have HBIG := Lib.hid hbig
 have hzr := zero_ks
 have hze := zero_env
 clear hl hp hbig
 go_enter Try.func42, Try.ntmps42
 go_upto_region 1 with (fail)
 obtain ⟨g, hg⟩ : ∃ g, g = w.heap.size := ⟨_, rfl⟩
 have hBg : B ≤ g := by omega
 have hgw : w.heap.size ≤ g := by omega
 refine wp_gen ((hR.new (l := envC kind Ap np cp As ns cs) (g := g) _ 25 hg rfl).new (l := envZ) (g := g + 1) _ 25 (by simp [hg]) rfl) ?_
 intro W1 hW1
 simp only [← hg]
 clear hR hg
 have hc1 := CloneB_any W1 B Ap np cp p (hW1.at_ 3 rfl : Rd W1 B 1 _ _ _ ∧ _).1 (hW1.at_ 3 rfl : _ ∧ B ≤ W1.heap.size).2 hnp
 have q1 := (env_cells kind Ap np cp As ns cs (hW1.at_ 1 rfl)).2.1
 have hsz1 : g + 1 < W1.heap.size := Cells.lt (hW1.at_ 0 rfl)
 go_upto_region 2 with (go_at_call 69; refine hc1.mono ?_; clear hc1; rintro e w2 ⟨A2, c2, rfl, hb2, hO2⟩; have hW2 := All.cons (r := .own W1.heap.size 5 1 A2 np c2 (p.map bv)) hO2 (hW1.call hb2); have q2 := (env_cells kind Ap np cp As ns cs (hW2.at_ 2 rfl)).2.1; have z2 := Cells.frozen (hW2.at_ 2 rfl) 1)
 refine wp_gen (hW2.store 2 rfl 1 (.slice A2 np c2) (by simp [Apart, Res.apart, Low.kss, Low.rd] <;> omega)) ?_
 rw [show (envC kind Ap np cp As ns cs).set 1 (.slice A2 np c2) = envC kind A2 np c2 As ns cs from rfl]
 intro W3 hW3
 simp only [List.set_cons_zero, List.set_cons_succ] at hW3
 clear hW1 hW2 hO2 hb2 q1 q2 z2
 have q3 := (env_cells kind A2 np c2 As ns cs (hW3.at_ 2 rfl)).2.2
 have z3 := Cells.frozen (hW3.at_ 2 rfl) 2
 go_upto_region 4 with (fail)
 refine wp_gen (hW3.store 2 rfl 2 (.slice none 0 0) (by simp [Apart, Res.apart, Low.kss, Low.rd] <;> omega)) ?_
 rw [show (envC kind A2 np c2 As ns cs).set 2 (.slice none 0 0) = envC kind A2 np c2 none 0 0 from rfl]
 intro W4 hW4
 simp only [List.set_cons_zero, List.set_cons_succ] at hW4
 clear hW3 q3 z3
 obtain ⟨b1, hb1⟩ : ∃ b1, b1 = W4.heap.size := ⟨_, rfl⟩
 have hPB : ∀ q, (Value.slice A2 np c2).ownBlock = some q → q < b1 := fun q hq => by rw [hb1]; exact ((hW4.at_ 0 rfl : Go.Adm.Own W4 _ _ _ _ _ _ _).lt hq).2
 have HPB := Lib.hid hPB
 have hgb : g + 1 < b1 := by rw [hb1]; exact Cells.lt (hW4.at_ 1 rfl)
 have hbW : b1 ≤ W4.heap.size := by omega
 have hI0 : All W4 [.ksn 64 b1 none 0 0 [], .cells g 25 (envC kind A2 np c2 none 0 0), .own W1.heap.size 5 1 A2 np c2 (p.map bv), .cells (g + 1) 25 envZ, .low (.kss B As ns l), .kept w w.heap.size] := ⟨ksn_nil, hW4.at_ 2 rfl, hW4.at_ 0 rfl, hW4.at_ 1 rfl, hW4.at_ 3 rfl, hW4.at_ 5 rfl, trivial⟩
 clear hW4 hb1 hPB
 go_wp2_with fail
 go_loopw [15] (fun iv wr => ∃ (k : Nat) (A' : Option Addr) (c' : Nat) (l' : List Ks), k ≤ ns ∧ iv = .int .i64 k ∧ b1 ≤ wr.heap.size ∧ Hid (l'.map Ks.s = (l.take k).map Ks.s) ∧ All wr [.ksn 64 b1 A' k c' l', .cells g 25 (envC kind A2 np c2 A' k c'), .own W1.heap.size 5 1 A2 np c2 (p.map bv), .cells (g + 1) 25 envZ, .low (.kss B As ns l), .kept w w.heap.size]) (fun iv _ => ns - (intOf iv).toNat)
 case atStart => exact ⟨0, none, 0, [], by omega, rfl, hbW, Lib.hid (by simp), hI0⟩
 case round =>
  clear hI0 hbW
  obtain ⟨k, A', c', l', hk, rfl, hbr, HP, hI⟩ := hrel
  by_cases hlt : k < ns
  ·have hkl : k < l.length := by rw [HN.out]; exact hlt
   have hbl := (hI.at_ 4 rfl : Kss wr B As ns l ∧ B ≤ wr.heap.size)
   obtain ⟨ad, rfl, hadB, hc⟩ := Els.elem hbl.1.els hkl
   have HC := Lib.hid hc
   have hx := Lib.hid (hbl.1.each _ (List.getElem_mem hkl)).r16
   have HBL : Hid (∀ W, All W [.low (.kss B (some ad) ns l)] → KsOk W B l[k]) := Lib.hid (fun W hW => (hW.at_ 0 rfl : Kss W B (some ad) ns l ∧ _).1.each _ (List.getElem_mem hkl))
   have hxn : Hid (l[k].chain.length ≤ 1000000 ∧ l[k].path.length ≤ 1000000) := Lib.hid (HBIG.out _ (List.getElem_mem hkl))
   have HPS : Hid (∀ x', x'.s = l[k].s → (l' ++ [x']).map Ks.s = (l.take (k + 1)).map Ks.s) := Lib.hid (fun x' hx' => by rw [List.map_append, HP.out, List.take_succ_eq_append_getElem hkl, List.map_append]; simp [hx'])
   have hBw : B ≤ wr.heap.size := hbl.2
   clear hc hbl
   generalize l[k] = x at *
   have d1 : decide ((k : Int) < (ns : Int)) = true := by simp; omega
   have hsw : g + 1 < wr.heap.size := Cells.lt (hI.at_ 3 rfl)
   have hob : ∀ q, (Value.slice A' k c').ownBlock = some q → q < wr.heap.size := fun q hq => ((hI.at_ 0 rfl : Nest wr _ _ _ _ _ _ _ _ _ _).own.lt hq).2
   obtain ⟨gx, hgx⟩ : ∃ gx, gx = wr.heap.size := ⟨_, rfl⟩
   have wk0 : (0 : Int) ≤ (k : Int) := by omega
   have wk1 : (k : Int) < (ns : Int) := by omega
   have wk2 : ((k : Int)).toNat = k := by omega
   go_upto_region 7 with (first
    | (refine wl_load_any rfl 64 (.tmp 17) rfl (ad.add (k * 20)) rfl (ksC x) _ HC.out Try.underlying64 rfl (by rw [ksC_len hx.out]; kernel_rfl) ?_)
    | (refine wl_store_at (hI.new (l := ksZ) _ 64 hgx rfl) 0 rfl 64 (.tmp 5) (.tmp 18) rfl gx _ _ (ksC x) rfl (by rw [hgx]; rfl) rfl (by rw [ksC_len hx.out]; rfl) (by rw [ksC_len hx.out]; kernel_rfl) (ksC_one x) ⟨ksn_far (hI.at_ 0 rfl) (by omega), by simp [Res.apart]; omega, own_apart HPB.out (by omega), by simp [Res.apart]; omega, by simp [Res.apart, Low.kss]; omega, by simp [Res.apart]; omega, trivial⟩ ?_; intro W2 hW2 hs2; simp only [List.set_cons_zero] at hW2))
   simp only [← hgx]
   have hob2 : ∀ q, (Value.slice A' k c').ownBlock = some q → q < gx := by rw [hgx]; exact hob
   have hbx : b1 ≤ gx := by omega
   have hBx : B ≤ gx := by omega
   clear hs2 hI HC hgx hob hbr hsw
   refine wp_region_hops 5 [19, 20, 21, 22, 23] _
    [.eq (.pointer (some ⟨g, 2, none⟩)), .eq (.slice A' k c'), .eq (.agg (ksC x).toArray), .dupK (gx + 1) x.s, .litK 64 (gx + 1) x.s]
    (by kernel_rfl) (by kernel_rfl) hW2 rfl ?hops ?fin
   case hops =>
    refine ⟨?_, ?_, ?_, ?_, ?_, trivial⟩
    ·intro a W hW hb hd K hK
     have b1 := hb 1 rfl
     go_simp
     exact hK _ _ (World.grownBy.refl _ _) rfl
    ·intro a W hW hb hd K hK
     have b19 : a.tmps[19]?.getD undef = _ := hd ⟨0, .data⟩ (by simp) rfl
     have q1 := (env_cells kind A2 np c2 A' k c' (hW.at_ 2 rfl)).2.2
     go_simp
     exact hK _ _ (World.grownBy.refl _ _) rfl
    ·intro a W hW hb hd K hK
     have b5 := hb 5 rfl
     refine wp_load_any 64 (.tmp 5) rfl ⟨gx, 0, none⟩ (show a.eval (.tmp 5) = _ from by simp only [Act.eval, Array.getD_eq_getD_getElem?]; exact b5) (ksC x) _ (Cells.sub (hW.at_ 0 rfl) 0 (fun j u h => by rwa [Nat.zero_add])) Try.underlying64 rfl (by rw [ksC_len hx.out]; kernel_rfl) ?_
     exact hK _ _ (World.grownBy.refl _ _) rfl
    ·intro a W hW hb hd K hK
     have b21 : a.tmps[21]?.getD undef = _ := hd ⟨2, .data⟩ (by simp) rfl
     have hsz : gx < W.heap.size := Cells.lt (hW.at_ 0 rfl)
     have hKO := HBL.out W ⟨hW.at_ 5 rfl, trivial⟩
     go_simp
     refine (duplicateK_any W B x hKO (by omega) hxn.out.1 hxn.out.2).mono ?_
     rintro e w' ⟨x', rfl, h1, h2, h3, hb'⟩
     exact hK _ _ (grown_of_below hb') ⟨x', rfl, h1, h2, fun b hb => ⟨by have := (h3 b hb).1; omega, (h3 b hb).2⟩⟩
    ·intro a W hW hb hd K hK
     obtain ⟨x', q22, h1, h2, h3⟩ := (hd ⟨3, .data⟩ (by simp) rfl : VF.ok (.dupK (gx + 1) x.s) (a.tmps[22]?.getD undef) W)
     replace q22 : a.tmps[22]?.getD undef = _ := q22
     have hsz : gx < W.heap.size := Cells.lt (hW.at_ 0 rfl)
     refine wp_lit1 el_ks (.tmp 22) rfl (ksC x') (show a.eval (.tmp 22) = _ from by simp only [Act.eval, Array.getD_eq_getD_getElem?]; exact q22) (ksC_len h2.r16) (by decide) ?_
     exact hK _ _ (grown_alloc _ _) ⟨x', W.heap.size, rfl, hsz, Cells.new _ _ _, h1, h2.grown (grown_alloc _ _), fun b hb => ⟨(h3 b hb).1, by have := (h3 b hb).2; simp; omega, by have := (h3 b hb).2; omega⟩⟩
   case fin =>
    intro vs V hV hv
    have e1 : vs 1 = _ := hv 1 (by decide)
    obtain ⟨x', g2, e4, hg2, hC2, hxs, hxo, hxb⟩ := (hv 4 (by decide) : VF.ok (.litK 64 (gx + 1) x.s) (vs 4) V)
    clear hv hW2
    simp only [putAll, List.drop_succ_cons, List.drop_zero, e1, e4, Act.put, List.setIfInBounds_toArray, List.set_cons_succ, List.set_cons_zero]
    clear e1 e4
    have hVx : gx < V.heap.size := Cells.lt (hV.at_ 0 rfl)
    refine wl_app_nest el_ks hV 1 rfl (.tmp 20) (.tmp 23) rfl b1 A' k c' _ 0 _ _ rfl rfl V.heap.size _ 1 _ (ksC x') rfl (cells_rd20 hC2 hxo.r16) (ksC_one _) (by omega) (by omega) (Nat.zero_le _) (KsF [x']) (KsI [x']) (fun y hy => by rw [List.mem_singleton.1 hy]; exact hxo) (KsI.st _) (fun b hb => ⟨by have := (hxb b hb).1; omega, (hxb b hb).2.1, fun e => by have := hob2 _ e; have := (hxb b hb).1; omega⟩) (fun q hq he => by
     have h1 := hob2 _ he
     refine ⟨by simp [Res.apart]; omega, by simp [Res.apart]; omega, own_apart HPB.out hq, by simp [Res.apart]; omega, by simp [Res.apart, Low.kss]; omega, by simp [Res.apart]; omega, trivial⟩) ?_
    intro A8 c8 w8 hI8 hs8
    simp only [List.set_cons_succ, List.set_cons_zero] at hI8
    have q8 := (env_cells kind A2 np c2 A' k c' (hI8.at_ 2 rfl)).2.2
    have z8 := Cells.frozen (hI8.at_ 2 rfl) 2
    have HPS2 := Lib.hid (HPS.out x' hxs)
    have hI9 : All w8 [.ksn 64 b1 A8 (k + 1) c8 (l' ++ [x']), .cells g 25 (envC kind A2 np c2 A' k c'), .own W1.heap.size 5 1 A2 np c2 (p.map bv), .cells (g + 1) 25 envZ, .low (.kss B (some ad) ns l), .kept w w.heap.size] := ⟨ksn_snoc (hI8.at_ 1 rfl), hI8.2.2⟩
    clear hI8 hV hC2 hxo hxb HPS HBL
    go_wp2_with fail
    refine ⟨⟨k + 1, A8, c8, l' ++ [x'], by omega, by go_num, by rw [size_setCell]; omega, HPS2, ?_⟩, by simp [intOf]; omega⟩
    have h1 := hI9.store 1 rfl 2 (.slice A8 (k + 1) c8) ⟨ksn_below (by omega), by simp [Res.apart] <;> omega, by simp [Res.apart] <;> omega, by simp [Res.apart, Low.kss] <;> omega, by simp [Res.apart] <;> omega, trivial⟩
    simp only [List.set_cons_succ, List.set_cons_zero] at h1
    exact h1
  ·obtain rfl : k = ns := by omega
   have d1 : decide ((k : Int) < (k : Int)) = false := by simp
   have hp := HP.out
   rw [List.take_of_length_le (by rw [HN.out]; exact Nat.le_refl _)] at hp
   have HP2 := Lib.hid hp
   clear hp
   go_wp2_with (first
    | (refine wl_load_any rfl 25 (.tmp 1) rfl ⟨g, 0, none⟩ rfl (envC kind A2 np c2 A' k c') _ (Cells.sub (hI.at_ 1 rfl) 0 (fun j u h => by rwa [Nat.zero_add])) Try.underlying25 rfl (by kernel_rfl) ?_)
    | (refine wl_store_at hI 3 rfl 25 (.tmp 2) (.tmp 27) rfl (g + 1) _ _ (envC kind A2 np c2 A' k c') rfl rfl rfl rfl (by kernel_rfl) (envC_one _ _ _ _ _ _ _) ⟨ksn_below (by omega), by simp [Res.apart], by simp [Res.apart] <;> omega, by simp [Res.apart, Low.kss] <;> omega, by simp [Res.apart] <;> omega, trivial⟩ ?_; intro W6 hW6 hs6; simp only [List.set_cons_zero, List.set_cons_succ] at hW6))
   refine bodyPost_ret (v := .agg (envC kind A2 np c2 A' k c').toArray) ?_ rfl ⟨A2, c2, A', c', l', b1, rfl, HP2.out, by omega, by omega, HPB.out, hW6.at_ 0 rfl, (hW6.at_ 2 rfl : Go.Adm.Own _ _ _ _ _ _ _ _).less (by omega), hW6.at_ 5 rfl, trivial⟩
   exact results_cell_row rfl _ _ (g + 1) 25 (envC kind A2 np c2 A' k c').toArray (0, 0) _ rfl (hW6.at_ 3 rfl) Try.underlying25 rfl (by kernel_rfl)
end Go.Proofs.Ytfakjamocpamiaa

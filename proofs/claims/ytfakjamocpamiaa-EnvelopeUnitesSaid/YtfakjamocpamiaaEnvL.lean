/- Sign of the reference. -/
import Derived.Test.YtfakjamocpamiaaEnvF
import Derived.Test.YtfakjamocpamiaaEnvG
set_option linter.unusedSimpArgs false
set_option linter.unusedVariables false
set_option maxRecDepth 100000
namespace Go.Adm
open Go Go.RowKit Go.Proofs.Ytfakjamocpamiaa
theorem kss_ins {w : World} {base n c p : Nat} {t : TypeId} {A : Option Addr} {l : List Ks} {x : Ks} (ho : Go.Adm.Own w base t 20 A (n + 1) c ((l.take p ++ x :: l.drop p).map ksC).flatten) (hl : ∀ y ∈ l, KsOk w w.heap.size y) (hx : KsOk w w.heap.size x) (hn : l.length = n) (hp : p ≤ n) : Kss w w.heap.size A (n + 1) (l.take p ++ x :: l.drop p) := by
 have hall : ∀ y ∈ l.take p ++ x :: l.drop p, KsOk w w.heap.size y := fun y hy => by
  rcases List.mem_append.1 hy with h | h
  ·exact hl y (List.mem_of_mem_take h)
  ·rcases List.mem_cons.1 h with h | h
   ·rw [h]; exact hx
   ·exact hl y (List.mem_of_mem_drop h)
 have hn1 : (l.take p ++ x :: l.drop p).length = n + 1 := by
  rw [List.length_append, List.length_cons, List.length_take, List.length_drop, hn]; omega
 exact ⟨Els.of ho (fun e he => by obtain ⟨y, hy, rfl⟩ := List.mem_map.1 he; exact ksC_len (hall y hy).r16) (by rw [List.length_map]; exact hn1), hall, hn1⟩
/-- a block of elements of the type -/
def OfT (w : World) (t : TypeId) (b : Nat) : Prop := ∃ cs z, w.heap[b]? = some (.cells cs t z)
theorem OfT.own {{w : World}} {{base size n c : Nat}} {{t : TypeId}} {{A : Option Addr}} {{xs : List Value}} {{ad : Addr}} (h : Go.Adm.Own w base t size A n c xs) (e : A = some ad) : OfT w t ad.block := by
 subst e
 rcases h.2 with ⟨hv, _⟩ | ⟨g', cap, cur, hv, _, hh, _⟩
 ·cases hv
 ·injection hv with hv
  injection hv with hv
  rw [hv]
  exact ⟨_, _, hh⟩
theorem OfT.lt {{w : World}} {{t : TypeId}} {{b : Nat}} (h : OfT w t b) : b < w.heap.size := by
 obtain ⟨cs, z, h⟩ := h
 exact (Array.getElem?_eq_some_iff.1 h).1
theorem OfT.grown {{w w' : World}} {{t : TypeId}} {{b : Nat}} (hg : w.grownBy w' none) (h : OfT w t b) : OfT w' t b := by
 have hl := h.lt
 obtain ⟨cs, z, h⟩ := h
 exact ⟨cs, z, by rw [hg.block _ hl (by simp)]; exact h⟩
theorem OfT.ne {{w : World}} {{t u : TypeId}} {{b : Nat}} {{cs : List Value}} (h : OfT w t b) (hc : Cells w b u cs) (hn : t ≠ u) : False := by
 obtain ⟨cs', z, h⟩ := h
 rw [hc] at h
 injection h with h
 injection h with _ h _
 exact hn h.symm
/-- what signing gives, and where it lies -/
def SignDet (kind : ByteArray) (Ap : Option Addr) (np cp ns : Nat) (l : List Ks) (t u : TypeId) (S : EnvR × List Value × Int) (w : World) (e : Ending) (w' : World) : Prop :=
 SignPostE S w e w' ∧ (S.2.2 = 0 → ∃ A9 c9 x p b6, e = .returned (.tuple #[.agg (envC kind Ap np cp A9 (ns + 1) c9).toArray, .agg S.2.1.toArray, .int .i64 0]) ∧ p ≤ ns ∧ S.1.sigs = List.map Ks.s (l.take p ++ x :: l.drop p) ∧ w.heap.size ≤ b6 ∧
  Go.Adm.Own w' b6 t 20 A9 (ns + 1) c9 ((l.take p ++ x :: l.drop p).map ksC).flatten ∧ KsOk w' w'.heap.size x ∧ ∀ b, KsF [x] b → w.heap.size ≤ b ∧ b < b6 ∧ OfT w' u b)
end Go.Adm
namespace Go.Proofs.Ytfakjamocpamiaa
open Go Go.RowKit Go.Adm
set_option maxHeartbeats 12800000 in
theorem refSignE_det (w : World) (B : Nat) (kind : ByteArray) (pay : List UInt8) (Ap : Option Addr) (np cp : Nat) (As : Option Addr) (ns cc : Nat) (l : List Ks) (seed : List UInt8) (h n : Int) (hpn : pay.length = np) (hp : Rd w B 1 Ap np (pay.map bv)) (hl : Kss w B As ns l) (hcp1 : np ≤ cp) (hcp2 : cp ≤ maxLen) (hcs1 : ns ≤ cc) (hcs2 : cc ≤ maxLen) (hs : seed.length = 16) (hk : kind.size ≤ 140737488355328) (hpl : pay.length ≤ 140737488355000) (hsl : (l.map Ks.s).length ≤ 1000000) (hB : B ≤ w.heap.size) :
  Calls Try.prog 20 #[.agg (envC kind Ap np cp As ns cc).toArray, .agg (siCells seed h n).toArray] w (SignDet kind Ap np cp ns l 64 41 (signE ⟨kind, pay, l.map Ks.s⟩ seed h n) w) := by
 have HCS := Lib.hid hcs1
 have HCM := Lib.hid (And.intro hcp1 hcp2)
 rw [List.length_map, hl.len] at hsl
 rw [hpn] at hpl
 have HN := Lib.hid hl.len
 have HPN := Lib.hid hpn
 have HVR := Lib.hid (validK_R (kind := kind) (l := l) hpn)
 have HSL := Lib.hid hs
 have hR : All w [.low (.kss B As ns l), .low (.rd B 1 Ap np (pay.map bv)), .kept w w.heap.size] := ⟨⟨hl, hB⟩, ⟨hp, hB⟩, ⟨Below.refl _ _, Nat.le_refl _⟩, trivial⟩
 clear hl hp hs hpn
 have hze := zero_env
 have hzs := zero_si
 have hzg := zero_sg
 have hzp := zero_pk
 go_enter Try.func20, Try.ntmps20
 go_upto_region 1 with (fail)
 obtain ⟨g, hg⟩ : ∃ g, g = w.heap.size := ⟨_, rfl⟩
 have hBg : B ≤ g := by omega
 have hgw : w.heap.size ≤ g := by omega
 refine wp_gen ((((hR.new (l := envC kind Ap np cp As ns cc) (g := g) _ 25 hg rfl).new (l := siCells seed h n) (g := g + 1) _ 43 (by simp [hg]) rfl).new (l := envZ) (g := g + 1 + 1) _ 25 (by simp [hg]) rfl).new (l := siz) (g := g + 1 + 1 + 1) _ 43 (by simp [hg]) rfl) ?_
 intro W1 hW1
 simp only [← hg]
 clear hR hg
 have hva := refValidE_any W1 B kind Ap np cp As ns cc l (hW1.at_ 4 rfl : Kss W1 B As ns l ∧ _).1 hk (by omega) (by omega) (hW1.at_ 4 rfl : _ ∧ B ≤ W1.heap.size).2
 obtain ⟨vb, hvb⟩ : ∃ vb, validR ⟨kind, pay, l.map Ks.s⟩ = vb := ⟨_, rfl⟩
 rw [HVR.out, hvb] at hva
 have HVB := Lib.hid hvb
 clear hvb
 cases vb with
 | false =>
  have hv := HVB.out
  have HS : Hid (signE ⟨kind, pay, l.map Ks.s⟩ seed h n = (envR0, siz, 1)) := Lib.hid (by unfold signE; rw [if_pos hv])
  clear hv
  go_upto_region 2 with (first
   | (refine wl_load_any rfl 25 (.tmp 2) rfl ⟨g, 0, none⟩ rfl (envC kind Ap np cp As ns cc) _ (Cells.sub (hW1.at_ 3 rfl) 0 (fun j u h => by rwa [Nat.zero_add])) Try.underlying25 rfl (by kernel_rfl) ?_)
   | (go_at_call 12; refine hva.mono ?_; clear hva; rintro e w2 ⟨rfl, hb2⟩; have hI := hW1.call hb2; clear hW1 hb2))
  go_wp2_with (first
   | (refine wl_build rfl 25 [] rfl _ _ #[(0, 1), (1, 1), (2, 1)] envZ.toArray zero_env Try.underlying25 (fun w => by kernel_rfl) rfl ?_)
   | (refine wl_build rfl 43 [] rfl _ _ #[(0, 16), (16, 1), (17, 1)] siz.toArray zero_si Try.underlying43 (fun w => by kernel_rfl) rfl ?_)
   | (refine wl_store_at hI 1 rfl 25 (.tmp 4) (.tmp 15) rfl (g + 1 + 1) _ _ envZ rfl rfl rfl rfl (by kernel_rfl) (envC_one _ _ _ _ _ _ _) (by simp [Apart, Res.apart, Low.kss, Low.rd, Low.els, *] <;> omega) ?_; intro W8 hI8 hs8; simp only [List.set_cons_zero, List.set_cons_succ] at hI8)
   | (refine wl_store_at hI8 0 rfl 43 (.tmp 5) (.tmp 16) rfl (g + 1 + 1 + 1) _ _ siz rfl rfl rfl rfl (by kernel_rfl) siz_one (by simp [Apart, Res.apart, Low.kss, Low.rd, Low.els, *] <;> omega) ?_; intro W9 hI9 hs9; simp only [List.set_cons_zero, List.set_cons_succ] at hI9))
  refine bodyPost_ret (v := .tuple #[.agg envZ.toArray, .agg siz.toArray, .int .i64 1]) ?_ rfl ⟨⟨envZ, by rw [HS.out], by rw [HS.out]; exact EnvAt.zero, (hI9.at_ 6 rfl : _ ∧ _).1⟩, fun h0 => (by rw [HS.out] at h0; exact absurd h0 (by decide))⟩
  exact results_row_row_tmp (p := 4) (p2 := 5) (q := 6) rfl _ _ (g + 1 + 1) 25 envZ.toArray (0, 0) _ rfl (hI9.at_ 1 rfl) Try.underlying25 rfl (by kernel_rfl) (g + 1 + 1 + 1) 43 siz.toArray (0, 0) _ rfl (hI9.at_ 0 rfl) Try.underlying43 rfl (by kernel_rfl)
 | true =>
  have hv := HVB.out
  obtain ⟨m, hm⟩ : ∃ m, msgS kind pay = m := ⟨_, rfl⟩
  obtain ⟨S, hS⟩ : ∃ S, signR seed m h n = S := ⟨_, rfl⟩
  have HS1 : Hid (S.err ≠ 0 → signE ⟨kind, pay, l.map Ks.s⟩ seed h n = (envR0, siz, S.err)) := Lib.hid (fun he => by unfold signE; rw [if_neg (by rw [hv]; decide)]; dsimp only; rw [hm, hS, if_pos he])
  have HS0 : Hid (S.err = 0 → ∃ kh : Nat, h = kh ∧ kh ≤ 6 ∧ (hasK l (idS kh (rootS seed kh)) = true → signE ⟨kind, pay, l.map Ks.s⟩ seed h n = (envR0, siz, 5)) ∧ (hasK l (idS kh (rootS seed kh)) = false → ns = 8 → signE ⟨kind, pay, l.map Ks.s⟩ seed h n = (envR0, siz, 3)) ∧ (hasK l (idS kh (rootS seed kh)) = false → ns ≠ 8 → signE ⟨kind, pay, l.map Ks.s⟩ seed h n = (⟨kind, pay, putG (l.map Ks.s) ⟨kh, rootS seed kh, S.leaf, S.chain, S.path⟩⟩, S.si, 0))) := Lib.hid (fun he => by
   obtain ⟨kh, hk1, hk2⟩ := signR_zero (show (signR seed m h n).err = 0 by rw [hS]; exact he)
   have hlen : (l.map Ks.s).length = ns := by rw [List.length_map, HN.out]
   refine ⟨kh, hk1, hk2, fun h1 => ?_, fun h1 h2 => ?_, fun h1 h2 => ?_⟩
   all_goals (unfold signE; rw [if_neg (by rw [hv]; decide)]; dsimp only; rw [hm, hS, if_neg (by rw [he]; decide), hk1, Int.toNat_natCast])
   ·rw [if_pos (by unfold hasK at h1; exact h1)]
   ·rw [if_neg (by unfold hasK at h1; rw [h1]; decide), if_pos (by rw [hlen]; exact h2)]
   ·rw [if_neg (by unfold hasK at h1; rw [h1]; decide), if_neg (by rw [hlen]; exact h2)])
  have HSO : Hid (SgnOk S) := Lib.hid (by rw [← hS]; exact signR_ok seed m h n HSL.out)
  have HSC : Hid (S.chain.length ≤ 1000000 ∧ S.path.length ≤ 1000000) := Lib.hid ⟨by have := HSO.out.nc; omega, by have := HSO.out.np; omega⟩
  have HSORT : Hid (SortK l) := Lib.hid (sortK_iff.2 (validR_iff.1 hv).2.2.2.2)
  have HML : Hid (m.length = 32) := Lib.hid (by rw [← hm]; exact msgS_len _ _)
  have HM := Lib.hid hm
  have HSE := Lib.hid hS
  have HKB : Hid (∀ x ∈ l, x.chain.length ≤ 1000000 ∧ x.path.length ≤ 1000000) := Lib.hid (fun x hx => by
   have h1 := (validR_iff.1 hv).2.2.2.1 x.s (List.mem_map_of_mem hx)
   have h2 : shapedB x.h x.leaf x.chain.length x.path.length = true := h1
   unfold shapedB at h2
   simp only [Bool.and_eq_true, decide_eq_true_eq, beq_iff_eq] at h2
   obtain ⟨h3, _, _, h4, h5⟩ := h2
   have h6 := (hOk_iff _).1 h3
   omega)
  have hsW : ∀ W, All W [.cells (g + 1 + 1 + 1) 43 siz, .cells (g + 1 + 1) 25 envZ, .cells (g + 1) 43 (siCells seed h n), .cells g 25 (envC kind Ap np cp As ns cc), .low (.kss B As ns l), .low (.rd B 1 Ap np (pay.map bv)), .kept w w.heap.size] → g + 1 + 1 + 1 + 1 ≤ W.heap.size := fun W hW => Cells.lt (hW.at_ 0 rfl)
  clear hv hm hS
  go_upto_region 3 with (first
   | (refine wl_load_any rfl 25 (.tmp 2) rfl ⟨g, 0, none⟩ rfl (envC kind Ap np cp As ns cc) _ (Cells.sub (hW1.at_ 3 rfl) 0 (fun j u h => by rwa [Nat.zero_add])) Try.underlying25 rfl (by kernel_rfl) ?_)
   | (go_at_call 12; refine hva.mono ?_; clear hva; rintro e w2 ⟨rfl, hb2⟩; have hI := hW1.call hb2; clear hW1 hb2))
  refine wp_region_hops_late 13 9 11 [18, 19, 20, 21, 22, 23, 24, 17, 25, 26, 27, 7, 8] _
   [.eq (.agg (siCells seed h n).toArray), .eq (.pointer (some ⟨g, 0, none⟩)), .eq (.string kind), .eq (.pointer (some ⟨g, 1, none⟩)), .eq (.slice Ap np cp), .eq (.agg (m.map bv).toArray), .sgn (g + 1 + 1 + 1 + 1) 41 S, .sgn (g + 1 + 1 + 1 + 1) 41 S, .eq (.agg S.si.toArray), .sgc (g + 1 + 1 + 1 + 1) 41 S, .eq (.int .i64 S.err), .box (g + 1 + 1 + 1 + 1) 43 siz, .box (g + 1 + 1 + 1 + 1) 60 sgz]
   (by kernel_rfl) (by kernel_rfl) (fun _ t _ _ _ h => by cases t <;> exact h) hI rfl ?hops ?flts ?fin
  case hops =>
   refine ⟨?_, ?_, ?_, ?_, ?_, ?_, ?_, ?_, ?_, ?_, ?_, ?_, ?_, trivial⟩
   ·intro a W hW hb hd K hK
    have b3 := hb 3 rfl
    refine wp_load_any 43 (.tmp 3) rfl ⟨g + 1, 0, none⟩ (show a.eval (.tmp 3) = _ from by simp only [Act.eval, Array.getD_eq_getD_getElem?]; exact b3) (siCells seed h n) _ (Cells.sub (hW.at_ 2 rfl) 0 (fun j u h => by rwa [Nat.zero_add])) Try.underlying43 rfl (by rw [si_len _ _ _ HSL.out]; kernel_rfl) ?_
    exact hK _ _ (World.grownBy.refl _ _) rfl
   ·intro a W hW hb hd K hK
    have b2 := hb 2 rfl
    go_simp
    exact hK _ _ (World.grownBy.refl _ _) rfl
   ·intro a W hW hb hd K hK
    have b19 : a.tmps[19]?.getD undef = _ := hd ⟨1, .data⟩ (by simp) rfl
    have q1 := (env_cells kind Ap np cp As ns cc (hW.at_ 3 rfl)).1
    go_simp
    exact hK _ _ (World.grownBy.refl _ _) rfl
   ·intro a W hW hb hd K hK
    have b2 := hb 2 rfl
    go_simp
    exact hK _ _ (World.grownBy.refl _ _) rfl
   ·intro a W hW hb hd K hK
    have b21 : a.tmps[21]?.getD undef = _ := hd ⟨3, .data⟩ (by simp) rfl
    have q1 := (env_cells kind Ap np cp As ns cc (hW.at_ 3 rfl)).2.1
    go_simp
    exact hK _ _ (World.grownBy.refl _ _) rfl
   ·intro a W hW hb hd K hK
    have b20 : a.tmps[20]?.getD undef = _ := hd ⟨2, .data⟩ (by simp) rfl
    have b22 : a.tmps[22]?.getD undef = _ := hd ⟨4, .data⟩ (by simp) rfl
    have hme := refMessage_any W B kind Ap np cp pay (hW.at_ 5 rfl : Rd W B 1 Ap np (pay.map bv) ∧ _).1 hk (by omega) (hW.at_ 5 rfl : _ ∧ B ≤ W.heap.size).2
    go_simp
    refine hme.mono ?_
    rw [HM.out]
    rintro e w' ⟨rfl, hb'⟩
    exact hK _ _ (grown_of_below hb') rfl
   ·intro a W hW hb hd K hK
    have b18 : a.tmps[18]?.getD undef = _ := hd ⟨0, .data⟩ (by simp) rfl
    have b23 : a.tmps[23]?.getD undef = _ := hd ⟨5, .data⟩ (by simp) rfl
    have hsz := hsW W hW
    go_simp
    refine (refSign_own W seed m h n HSL.out HML.out).mono ?_
    rw [HSE.out]
    rintro e w' ⟨Ac, cc', Aq, cq, rfl, h1, h2, h3, hb'⟩
    exact hK _ _ (grown_of_below hb') ⟨Nat.le_trans hsz hb'.size, Ac, cc', Aq, cq, rfl, h1.less hsz, h2.less hsz, h3⟩
   ·intro a W hW hb hd K hK
    have q24 : VF.ok (.sgn (g + 1 + 1 + 1 + 1) 41 S) (a.tmps[24]?.getD undef) W := hd ⟨6, .data⟩ (by simp) rfl
    go_simp
    exact hK _ _ (World.grownBy.refl _ _) q24
   ·intro a W hW hb hd K hK
    obtain ⟨hsz, Ac, cc', Aq, cq, q17, h1, h2, h3⟩ := (hd ⟨7, .data⟩ (by simp) rfl : VF.ok (.sgn (g + 1 + 1 + 1 + 1) 41 S) (a.tmps[17]?.getD undef) W)
    replace q17 : a.tmps[17]?.getD undef = _ := q17
    go_simp
    exact hK _ _ (World.grownBy.refl _ _) rfl
   ·intro a W hW hb hd K hK
    obtain ⟨hsz, Ac, cc', Aq, cq, q17, h1, h2, h3⟩ := (hd ⟨7, .data⟩ (by simp) rfl : VF.ok (.sgn (g + 1 + 1 + 1 + 1) 41 S) (a.tmps[17]?.getD undef) W)
    replace q17 : a.tmps[17]?.getD undef = _ := q17
    go_simp
    exact hK _ _ (World.grownBy.refl _ _) ⟨hsz, Ac, cc', Aq, cq, rfl, h1, h2, h3⟩
   ·intro a W hW hb hd K hK
    obtain ⟨hsz, Ac, cc', Aq, cq, q17, h1, h2, h3⟩ := (hd ⟨7, .data⟩ (by simp) rfl : VF.ok (.sgn (g + 1 + 1 + 1 + 1) 41 S) (a.tmps[17]?.getD undef) W)
    replace q17 : a.tmps[17]?.getD undef = _ := q17
    go_simp
    exact hK _ _ (World.grownBy.refl _ _) rfl
   ·intro a W hW hb hd K hK
    go_simp
    exact hK _ _ (grown_alloc _ _) ⟨_, rfl, hsW W hW, Cells.new _ _ _⟩
   ·intro a W hW hb hd K hK
    go_simp
    exact hK _ _ (grown_alloc _ _) ⟨_, rfl, hsW W hW, Cells.new _ _ _⟩
  case flts =>
   refine ⟨?_, ?_, trivial⟩
   ·intro a W hW hb hd
    obtain ⟨hsz, Ac, cc', Aq, cq, q17, h1, h2, h3⟩ := (hd ⟨7, .data⟩ (by simp) rfl : VF.ok (.sgn (g + 1 + 1 + 1 + 1) 41 S) (a.tmps[17]?.getD undef) W)
    replace q17 : a.tmps[17]?.getD undef = _ := q17
    refine ⟨.agg (sgCells S.leaf Ac S.chain.length cc' Aq S.path.length cq).toArray, .inl ⟨rfl, fun w => ?_⟩, ⟨hsz, Ac, cc', Aq, cq, rfl, h1, h2, h3⟩⟩
    go_simp
   ·intro a W hW hb hd
    obtain ⟨hsz, Ac, cc', Aq, cq, q17, h1, h2, h3⟩ := (hd ⟨7, .data⟩ (by simp) rfl : VF.ok (.sgn (g + 1 + 1 + 1 + 1) 41 S) (a.tmps[17]?.getD undef) W)
    replace q17 : a.tmps[17]?.getD undef = _ := q17
    refine ⟨.int .i64 S.err, .inl ⟨rfl, fun w => ?_⟩, rfl⟩
    go_simp
  case fin =>
   intro vs V hV hv
   have e8 : vs 8 = _ := hv 8 (by decide)
   have e10 : vs 10 = _ := hv 10 (by decide)
   obtain ⟨hsz, Ac, ccc, Aq, cq, e9, hO1, hO2, hO3⟩ := (hv 9 (by decide) : VF.ok (.sgc (g + 1 + 1 + 1 + 1) 41 S) (vs 9) V)
   obtain ⟨g7, e11, hg7, hC7⟩ := (hv 11 (by decide) : VF.ok (.box (g + 1 + 1 + 1 + 1) 43 siz) (vs 11) V)
   obtain ⟨g8, e12, hg8, hC8⟩ := (hv 12 (by decide) : VF.ok (.box (g + 1 + 1 + 1 + 1) 60 sgz) (vs 12) V)
   clear hv hI hsW
   simp only [putAll, List.drop_succ_cons, List.drop_zero, e8, e9, e10, e11, e12, Act.put, List.setIfInBounds_toArray, List.set_cons_succ, List.set_cons_zero]
   clear e8 e9 e10 e11 e12
   have hgg : g7 ≠ g8 := hC7.ne hC8 (by decide)
   have ha1 := hO1.ne_cells hC7 (by decide)
   have ha2 := hO2.ne_cells hC7 (by decide)
   have hb1 := hO1.ne_cells hC8 (by decide)
   have hb2 := hO2.ne_cells hC8 (by decide)
   obtain ⟨s', h', n', hsi, hs16, _⟩ := HSO.out.si
   have HSI := Lib.hid hsi
   have HS16 := Lib.hid hs16
   have hV1 : All V (.cells g7 43 siz :: .cells g8 60 sgz :: .own (g + 1 + 1 + 1 + 1) 41 16 Ac S.chain.length ccc (hvs S.chain).flatten :: .own (g + 1 + 1 + 1 + 1) 41 16 Aq S.path.length cq (hvs S.path).flatten :: [.cells (g + 1 + 1 + 1) 43 siz, .cells (g + 1 + 1) 25 envZ, .cells (g + 1) 43 (siCells seed h n), .cells g 25 (envC kind Ap np cp As ns cc), .low (.kss B As ns l), .low (.rd B 1 Ap np (pay.map bv)), .kept w w.heap.size]) := ⟨hC7, hC8, hO1, hO2, hV⟩
   clear hV hC7 hC8 hO1 hO2 hsz hsi hs16
   rw [HSI.out]
   refine wl_store_at hV1 0 rfl 43 (.tmp 7) (.tmp 25) rfl g7 _ _ (siCells s' h' n') rfl rfl rfl (by rw [si_len _ _ _ HS16.out]; rfl) (by rw [si_len _ _ _ HS16.out]; kernel_rfl) (si_one _ _ _) (by simp [Apart, Res.apart, Low.kss, Low.rd, hgg, hgg.symm, ha1, ha2] <;> omega) ?_
   intro V2 hV2 hs2
   refine wl_store_at hV2 1 rfl 60 (.tmp 8) (.tmp 26) rfl g8 _ _ (sgCells S.leaf Ac S.chain.length ccc Aq S.path.length cq) rfl rfl rfl rfl (by kernel_rfl) (sg_one _ _ _ _ _ _ _) (by simp [Apart, Res.apart, Low.kss, Low.rd, hgg, hgg.symm, hb1, hb2] <;> omega) ?_
   intro V3 hV3 hs3
   simp only [List.set_cons_zero, List.set_cons_succ] at hV3
   clear hV1 hV2 hs2 hs3
   by_cases herr : S.err = 0
   case neg =>
    have HS := Lib.hid (HS1.out herr)
    have d1 : (S.err != 0) = true := by simp [herr]
    have d1' : (S.err == 0) = false := by simp [herr]
    have hge1 : g < g7 := by omega
    have hge2 : g < g8 := by omega
    have HER : Hid (S.err ≠ 0) := Lib.hid herr
    generalize S.err = er at *
    go_wp2_with (first
     | (refine wl_build rfl 25 [] rfl _ _ #[(0, 1), (1, 1), (2, 1)] envZ.toArray zero_env Try.underlying25 (fun w => by kernel_rfl) rfl ?_)
     | (refine wl_build rfl 43 [] rfl _ _ #[(0, 16), (16, 1), (17, 1)] siz.toArray zero_si Try.underlying43 (fun w => by kernel_rfl) rfl ?_)
     | (refine wl_store_at hV3 5 rfl 25 (.tmp 4) (.tmp 30) rfl (g + 1 + 1) _ _ envZ rfl rfl rfl rfl (by kernel_rfl) (envC_one _ _ _ _ _ _ _) (by simp [Apart, Res.apart, Low.kss, Low.rd] <;> omega) ?_; intro W8 hI8 hs8; simp only [List.set_cons_zero, List.set_cons_succ] at hI8)
     | (refine wl_store_at hI8 4 rfl 43 (.tmp 5) (.tmp 31) rfl (g + 1 + 1 + 1) _ _ siz rfl rfl rfl rfl (by kernel_rfl) siz_one (by simp [Apart, Res.apart, Low.kss, Low.rd] <;> omega) ?_; intro W9 hI9 hs9; simp only [List.set_cons_zero, List.set_cons_succ] at hI9))
    refine bodyPost_ret (v := .tuple #[.agg envZ.toArray, .agg siz.toArray, .int .i64 er]) ?_ rfl ⟨⟨envZ, by rw [HS.out], by rw [HS.out]; exact EnvAt.zero, (hI9.at_ 10 rfl : _ ∧ _).1⟩, fun h0 => (by rw [HS.out] at h0; exact absurd h0 HER.out)⟩
    exact results_row_row_tmp (p := 4) (p2 := 5) (q := 6) rfl _ _ (g + 1 + 1) 25 envZ.toArray (0, 0) _ rfl (hI9.at_ 5 rfl) Try.underlying25 rfl (by kernel_rfl) (g + 1 + 1 + 1) 43 siz.toArray (0, 0) _ rfl (hI9.at_ 4 rfl) Try.underlying43 rfl (by kernel_rfl)
   case pos =>
    obtain ⟨kh, hkh, hk6, hA5, hA3, hA0⟩ := HS0.out herr
    subst hkh
    have HA5 := Lib.hid hA5
    have HA3 := Lib.hid hA3
    have HA0 := Lib.hid hA0
    clear hA5 hA3 hA0
    obtain ⟨root, hroot⟩ : ∃ root, rootS seed kh = root := ⟨_, rfl⟩
    have HRT := Lib.hid hroot
    have HR16 : Hid (root.length = 16) := Lib.hid (by rw [← hroot]; exact rootS_len seed kh)
    have d1 : (S.err != 0) = false := by simp [herr]
    have d1' : (S.err == 0) = true := by simp [herr]
    have hge1 : g < g7 := by omega
    have hge2 : g < g8 := by omega
    have hnw := refNew_any V3 seed kh HSL.out hk6
    rw [hroot] at hnw
    have c16 := si_at16 HSL.out (hV3.at_ 6 rfl)
    clear hroot HS1 HS0 herr
    generalize S.err = er at *
    go_upto_region 7 with (first
     | (refine wl_load_any rfl 41 (.tmp 34) rfl ⟨g + 1, 0, none⟩ rfl (seed.map bv) _ (si_seed HSL.out (hV3.at_ 6 rfl)) Try.underlying41 rfl (by rw [List.length_map, HSL.out]; kernel_rfl) ?_)
     | (go_at_call 45; refine hnw.mono ?_; clear hnw; rintro e w4 ⟨rfl, hb4⟩; have hV4 := hV3.call hb4; clear hV3 hb4)
     | (refine wl_store_at (hV4.new (l := Value.int .i64 0 :: List.replicate 16 (Value.int .u8 0)) (g := w4.heap.size) _ 62 rfl rfl) 0 rfl 62 (.tmp 10) (.tmp 39) rfl w4.heap.size _ _ (pkCells kh root) rfl rfl rfl (by rw [pkLen HR16.out]; rfl) (by rw [pkLen HR16.out]; kernel_rfl) (pk_one _ _) (hV4.fresh (Nat.le_refl _) rfl) ?_; intro V5 hV5 hs5; simp only [List.set_cons_zero] at hV5))
    obtain ⟨gp, hgp⟩ : ∃ gp, gp = w4.heap.size := ⟨_, rfl⟩
    have hg7p : g7 < gp := by rw [hgp]; exact Cells.lt (hV4.at_ 0 rfl)
    have hg8p : g8 < gp := by rw [hgp]; exact Cells.lt (hV4.at_ 1 rfl)
    simp only [← hgp] at hV5 ⊢
    clear hV4 hs5 hgp c16 d1 d1'
    obtain ⟨id, hid⟩ : ∃ id, idS kh root = id := ⟨_, rfl⟩
    have HI32 : Hid (id.length = 32) := Lib.hid (by rw [← hid]; exact idS_len _ _)
    have HID := Lib.hid hid
    obtain ⟨pl, hpl2⟩ : ∃ pl, placeK l id = pl := ⟨_, rfl⟩
    have hple : pl ≤ ns := by rw [← hpl2, ← HN.out]; exact placeK_le l id
    have HPL := Lib.hid hpl2
    obtain ⟨hh, hhh⟩ : ∃ hh, hasK l id = hh := ⟨_, rfl⟩
    have HHH := Lib.hid hhh
    clear hid hpl2 hhh
    refine wp_region_hops 5 [41, 42, 43, 44, 45] _
     [.eq (.pointer (some ⟨g, 2, none⟩)), .eq (.slice As ns cc), .eq (.agg (pkCells kh root).toArray), .eq (.agg (id.map bv).toArray), .eq (.int .i64 (findV l id))]
     (by kernel_rfl) (by kernel_rfl) hV5 rfl ?hops2 ?fin2
    case hops2 =>
     refine ⟨?_, ?_, ?_, ?_, ?_, trivial⟩
     ·intro a W hW hb hd K hK
      have b2 := hb 2 rfl
      go_simp
      exact hK _ _ (World.grownBy.refl _ _) rfl
     ·intro a W hW hb hd K hK
      have b41 : a.tmps[41]?.getD undef = _ := hd ⟨0, .data⟩ (by simp) rfl
      have q1 := (env_cells kind Ap np cp As ns cc (hW.at_ 8 rfl)).2.2
      go_simp
      exact hK _ _ (World.grownBy.refl _ _) rfl
     ·intro a W hW hb hd K hK
      have b10 := hb 10 rfl
      refine wp_load_any 62 (.tmp 10) rfl ⟨gp, 0, none⟩ (show a.eval (.tmp 10) = _ from by simp only [Act.eval, Array.getD_eq_getD_getElem?]; exact b10) (pkCells kh root) _ (Cells.sub (hW.at_ 0 rfl) 0 (fun j u h => by rwa [Nat.zero_add])) Try.underlying62 rfl (by rw [pkLen HR16.out]; kernel_rfl) ?_
      exact hK _ _ (World.grownBy.refl _ _) rfl
     ·intro a W hW hb hd K hK
      have b43 : a.tmps[43]?.getD undef = _ := hd ⟨2, .data⟩ (by simp) rfl
      have hidc := refID_any W kh root HR16.out
      rw [HID.out] at hidc
      go_simp
      refine (hidc).mono ?_
      rintro e w' ⟨rfl, hb'⟩
      exact hK _ _ (grown_of_below hb') rfl
     ·intro a W hW hb hd K hK
      have b42 : a.tmps[42]?.getD undef = _ := hd ⟨1, .data⟩ (by simp) rfl
      have b44 : a.tmps[44]?.getD undef = _ := hd ⟨3, .data⟩ (by simp) rfl
      have hse := refFindK_any W B As ns cc l id (hW.at_ 9 rfl : Kss W B As ns l ∧ _).1 HSORT.out HI32.out hsl (hW.at_ 9 rfl : _ ∧ B ≤ W.heap.size).2
      go_simp
      refine (hse).mono ?_
      rintro e w' ⟨rfl, hb'⟩
      exact hK _ _ (grown_of_below hb') rfl
    case fin2 =>
     intro vs V6 hV6 hv
     have e4 : vs 4 = _ := hv 4 (by decide)
     clear hv hV5
     simp only [putAll, List.drop_succ_cons, List.drop_zero, e4, Act.put, List.setIfInBounds_toArray, List.set_cons_succ, List.set_cons_zero]
     clear e4
     cases hh with
     | true =>
      have HS := Lib.hid (HA5.out (by rw [HRT.out, HID.out]; exact HHH.out))
      have dg : decide ((0 : Int) ≤ findV l id) = true := by rw [findV_yes HHH.out HPL.out]; simp
      go_wp2_with (first
       | (refine wl_build rfl 25 [] rfl _ _ #[(0, 1), (1, 1), (2, 1)] envZ.toArray zero_env Try.underlying25 (fun w => by kernel_rfl) rfl ?_)
       | (refine wl_build rfl 43 [] rfl _ _ #[(0, 16), (16, 1), (17, 1)] siz.toArray zero_si Try.underlying43 (fun w => by kernel_rfl) rfl ?_)
       | (refine wl_store_at hV6 6 rfl 25 (.tmp 4) (.tmp 47) rfl (g + 1 + 1) _ _ envZ rfl rfl rfl rfl (by kernel_rfl) (envC_one _ _ _ _ _ _ _) (by simp [Apart, Res.apart, Low.kss, Low.rd] <;> omega) ?_; intro W8 hI8 hs8; simp only [List.set_cons_zero, List.set_cons_succ] at hI8)
       | (refine wl_store_at hI8 5 rfl 43 (.tmp 5) (.tmp 48) rfl (g + 1 + 1 + 1) _ _ siz rfl rfl rfl rfl (by kernel_rfl) siz_one (by simp [Apart, Res.apart, Low.kss, Low.rd] <;> omega) ?_; intro W9 hI9 hs9; simp only [List.set_cons_zero, List.set_cons_succ] at hI9))
      refine bodyPost_ret (v := .tuple #[.agg envZ.toArray, .agg siz.toArray, .int .i64 5]) ?_ rfl ⟨⟨envZ, by rw [HS.out], by rw [HS.out]; exact EnvAt.zero, (hI9.at_ 11 rfl : _ ∧ _).1⟩, fun h0 => (by rw [HS.out] at h0; exact absurd h0 (by decide))⟩
      exact results_row_row_tmp (p := 4) (p2 := 5) (q := 6) rfl _ _ (g + 1 + 1) 25 envZ.toArray (0, 0) _ rfl (hI9.at_ 6 rfl) Try.underlying25 rfl (by kernel_rfl) (g + 1 + 1 + 1) 43 siz.toArray (0, 0) _ rfl (hI9.at_ 5 rfl) Try.underlying43 rfl (by kernel_rfl)
     | false =>
      have q6 := (env_cells kind Ap np cp As ns cc (hV6.at_ 8 rfl)).2.2
      have dg : decide ((0 : Int) ≤ findV l id) = false := by rw [findV_no HHH.out]; decide
      by_cases h8 : ns = 8
      ·have HS := Lib.hid (HA3.out (by rw [HRT.out, HID.out]; exact HHH.out) h8)
       have d8 : ((ns : Int) == 8) = true := by simp [h8]
       clear h8
       go_wp2_with (first
        | (refine wl_build rfl 25 [] rfl _ _ #[(0, 1), (1, 1), (2, 1)] envZ.toArray zero_env Try.underlying25 (fun w => by kernel_rfl) rfl ?_)
        | (refine wl_build rfl 43 [] rfl _ _ #[(0, 16), (16, 1), (17, 1)] siz.toArray zero_si Try.underlying43 (fun w => by kernel_rfl) rfl ?_)
        | (refine wl_store_at hV6 6 rfl 25 (.tmp 4) (.tmp 53) rfl (g + 1 + 1) _ _ envZ rfl rfl rfl rfl (by kernel_rfl) (envC_one _ _ _ _ _ _ _) (by simp [Apart, Res.apart, Low.kss, Low.rd] <;> omega) ?_; intro W8 hI8 hs8; simp only [List.set_cons_zero, List.set_cons_succ] at hI8)
        | (refine wl_store_at hI8 5 rfl 43 (.tmp 5) (.tmp 54) rfl (g + 1 + 1 + 1) _ _ siz rfl rfl rfl rfl (by kernel_rfl) siz_one (by simp [Apart, Res.apart, Low.kss, Low.rd] <;> omega) ?_; intro W9 hI9 hs9; simp only [List.set_cons_zero, List.set_cons_succ] at hI9))
       refine bodyPost_ret (v := .tuple #[.agg envZ.toArray, .agg siz.toArray, .int .i64 3]) ?_ rfl ⟨⟨envZ, by rw [HS.out], by rw [HS.out]; exact EnvAt.zero, (hI9.at_ 11 rfl : _ ∧ _).1⟩, fun h0 => (by rw [HS.out] at h0; exact absurd h0 (by decide))⟩
       exact results_row_row_tmp (p := 4) (p2 := 5) (q := 6) rfl _ _ (g + 1 + 1) 25 envZ.toArray (0, 0) _ rfl (hI9.at_ 6 rfl) Try.underlying25 rfl (by kernel_rfl) (g + 1 + 1 + 1) 43 siz.toArray (0, 0) _ rfl (hI9.at_ 5 rfl) Try.underlying43 rfl (by kernel_rfl)
      ·have HS := Lib.hid (HA0.out (by rw [HRT.out, HID.out]; exact HHH.out) h8)
       have d8 : ((ns : Int) == 8) = false := by simp; omega
       have hgpV : gp < V6.heap.size := Cells.lt (hV6.at_ 0 rfl)
       obtain ⟨b6, hb6⟩ : ∃ b6, b6 = V6.heap.size := ⟨_, rfl⟩
       have hoA := own_len (hV6.at_ 3 rfl : Go.Adm.Own V6 _ _ _ _ _ _ _)
       have hoB := own_len (hV6.at_ 4 rfl : Go.Adm.Own V6 _ _ _ _ _ _ _)
       rw [← hb6] at hgpV hoA hoB
       have HGB : Hid (w.heap.size ≤ g ∧ g + 1 + 1 + 1 + 1 ≤ b6) := Lib.hid ⟨by omega, by omega⟩
       obtain ⟨x, hx⟩ : ∃ x : Ks, x = ⟨(kh : Int), root, S.leaf, Ac, ccc, S.chain, Aq, cq, S.path⟩ := ⟨_, rfl⟩
       have hxs : x.s = ⟨kh, root, S.leaf, S.chain, S.path⟩ := by rw [hx]; rfl
       have hxr : x.r.length = 16 := by rw [hx]; exact HR16.out
       have hxi : idK x = id := by rw [hx]; exact HID.out
       have HXO : Hid (∀ W, All W [.own (g + 1 + 1 + 1 + 1) 41 16 Ac S.chain.length ccc (hvs S.chain).flatten, .own (g + 1 + 1 + 1 + 1) 41 16 Aq S.path.length cq (hvs S.path).flatten] → KsOk W W.heap.size x) := Lib.hid (fun W hW => by
        rw [hx]
        exact ⟨HR16.out, Els.of (hW.at_ 0 rfl) (hvs_each HSO.out.chain) (hvs_len _), HSO.out.chain, (hW.at_ 0 rfl : Go.Adm.Own W _ _ _ _ _ _ _).cap, Els.of (hW.at_ 1 rfl) (hvs_each HSO.out.path) (hvs_len _), HSO.out.path, (hW.at_ 1 rfl : Go.Adm.Own W _ _ _ _ _ _ _).cap⟩)
       have HFP : Hid (Instr.fill (#[(0, 17), (17, 3)][·]?) ksZ.toArray [(0, .agg (pkCells kh root).toArray), (1, .agg (sgCells S.leaf Ac S.chain.length ccc Aq S.path.length cq).toArray)] = some (ksC x).toArray) := Lib.hid (by rw [hx]; exact fill_ks ⟨(kh : Int), root, S.leaf, Ac, ccc, S.chain, Aq, cq, S.path⟩ HR16.out)
       have HXF : Hid (∀ b, KsF [x] b → w.heap.size ≤ b ∧ b < b6) := Lib.hid (fun b hb => by
        obtain ⟨y, hy, hq⟩ := hb
        rw [List.mem_singleton] at hy
        subst hy
        rw [hx] at hq
        have hgg := HGB.out
        rcases hq with ⟨ad, e, rfl⟩ | ⟨ad, e, rfl⟩
        ·have := hoA ad e; omega
        ·have := hoB ad e; omega)
       have HXT : Hid (∀ W, All W [.own (g + 1 + 1 + 1 + 1) 41 16 Ac S.chain.length ccc (hvs S.chain).flatten, .own (g + 1 + 1 + 1 + 1) 41 16 Aq S.path.length cq (hvs S.path).flatten] → ∀ b, KsF [x] b → OfT W 41 b) := Lib.hid (fun W hW b hb => by
        obtain ⟨y, hy, hq⟩ := hb
        rw [List.mem_singleton] at hy
        subst hy
        rw [hx] at hq
        rcases hq with ⟨ad, e, rfl⟩ | ⟨ad, e, rfl⟩
        ·exact OfT.own (hW.at_ 0 rfl) e
        ·exact OfT.own (hW.at_ 1 rfl) e)
       have HXS := Lib.hid hxs
       have HXR := Lib.hid hxr
       have hin := refInsertK_any V6 B As ns cc l x (hV6.at_ 9 rfl : Kss V6 B As ns l ∧ _).1 hxr hsl HCS.out (hV6.at_ 9 rfl : _ ∧ B ≤ V6.heap.size).2
       rw [hxi, HPL.out, ← hb6] at hin
       clear hx hxs hxr hxi h8 hoA hoB
       have hzk := zero_ks
       go_upto_region 12 with (first
        | (refine wl_load_any rfl 62 (.tmp 10) rfl ⟨gp, 0, none⟩ rfl (pkCells kh root) _ (Cells.sub (hV6.at_ 0 rfl) 0 (fun j u h => by rwa [Nat.zero_add])) Try.underlying62 rfl (by rw [pkLen HR16.out]; kernel_rfl) ?_)
        | (refine wl_load_any rfl 60 (.tmp 8) rfl ⟨g8, 0, none⟩ rfl (sgCells S.leaf Ac S.chain.length ccc Aq S.path.length cq) _ (Cells.sub (hV6.at_ 2 rfl) 0 (fun j u h => by rwa [Nat.zero_add])) Try.underlying60 rfl (by kernel_rfl) ?_)
        | (refine wl_build rfl 64 [(0, .tmp 57), (1, .tmp 58)] rfl _ _ #[(0, 17), (17, 3)] (ksC x).toArray zero_ks Try.underlying64 (fun w => by kernel_rfl) HFP.out ?_)
        | (go_at_call 47; refine hin.mono ?_; clear hin; rintro e w11 ⟨A9, c9, rfl, hO9, hb9⟩; have hV11 : All w11 (.own b6 64 20 A9 (ns + 1) c9 ((l.take pl ++ x :: l.drop pl).map ksC).flatten :: _) := ⟨hO9, hV6.call (by rw [hb6] at hb9; exact hb9)⟩; have q11 := (env_cells kind Ap np cp As ns cc (hV11.at_ 9 rfl)).2.2; have z11 := Cells.frozen (hV11.at_ 9 rfl) 2))
       refine wp_gen (hV11.store 9 rfl 2 (.slice A9 (ns + 1) c9) ⟨own_below (by omega), by simp [Res.apart] <;> omega, by simp [Res.apart] <;> omega, by simp [Res.apart] <;> omega, own_below (by omega), own_below (by omega), by simp [Res.apart] <;> omega, by simp [Res.apart] <;> omega, by simp [Res.apart] <;> omega, by simp [Res.apart, Low.kss] <;> omega, by simp [Res.apart, Low.rd] <;> omega, by simp [Res.apart] <;> omega, trivial⟩) ?_
       rw [env_set2]
       intro W12 hW12
       simp only [List.set_cons_zero, List.set_cons_succ] at hW12
       have HFIN : Hid (∀ W, All W [.own b6 64 20 A9 (ns + 1) c9 ((l.take pl ++ x :: l.drop pl).map ksC).flatten, .cells gp 62 (pkCells kh root), .cells g7 43 (siCells s' h' n'), .cells g8 60 (sgCells S.leaf Ac S.chain.length ccc Aq S.path.length cq), .own (g + 1 + 1 + 1 + 1) 41 16 Ac S.chain.length ccc (hvs S.chain).flatten, .own (g + 1 + 1 + 1 + 1) 41 16 Aq S.path.length cq (hvs S.path).flatten, .cells (g + 1 + 1 + 1) 43 (siCells s' h' n'), .cells (g + 1 + 1) 25 (envC kind Ap np cp A9 (ns + 1) c9), .cells (g + 1) 43 (siCells seed kh n), .cells g 25 (envC kind Ap np cp A9 (ns + 1) c9), .low (.kss B As ns l), .low (.rd B 1 Ap np (pay.map bv)), .kept w w.heap.size] → SignDet kind Ap np cp ns l 64 41 (signE ⟨kind, pay, l.map Ks.s⟩ seed kh n) w (.returned (.tuple #[.agg (envC kind Ap np cp A9 (ns + 1) c9).toArray, .agg (siCells s' h' n').toArray, .int .i64 0])) W) := Lib.hid (fun W hW => by
        have hO : Go.Adm.Own W b6 64 20 A9 (ns + 1) c9 _ := hW.at_ 0 rfl
        have hK : Kss W B As ns l ∧ B ≤ W.heap.size := hW.at_ 10 rfl
        have hP : Rd W B 1 Ap np (pay.map bv) ∧ B ≤ W.heap.size := hW.at_ 11 rfl
        have hplc : placeG (l.map Ks.s) (idG ⟨(kh : Int), root, S.leaf, S.chain, S.path⟩) = pl := by
         show placeG (l.map Ks.s) (idS kh root) = pl
         rw [HID.out]; exact HPL.out
        have hput : putG (l.map Ks.s) ⟨(kh : Int), rootS seed kh, S.leaf, S.chain, S.path⟩ = List.map Ks.s (l.take pl ++ x :: l.drop pl) := by
         rw [HRT.out, List.map_append, List.map_cons, List.map_take, List.map_drop, HXS.out]
         unfold putG
         rw [hplc]
        have hxo := HXO.out W ⟨hW.at_ 4 rfl, hW.at_ 5 rfl, trivial⟩
        rw [HS.out]
        exact ⟨⟨envC kind Ap np cp A9 (ns + 1) c9, by rw [HSI.out], ⟨Ap, np, cp, A9, ns + 1, c9, l.take pl ++ x :: l.drop pl, rfl, HPN.out, hP.1.mono hP.2, hput, kss_ins hO (fun y hy => (hK.1.each y hy).mono hK.2) hxo HN.out hple, HCM.out.1, HCM.out.2, hO.cap.1, hO.cap.2⟩, (hW.at_ 12 rfl : _ ∧ _).1⟩, fun _ => ⟨A9, c9, x, pl, b6, by rw [HSI.out], hple, hput, by have := HGB.out; omega, hO, hxo, fun b hb => ⟨(HXF.out b hb).1, (HXF.out b hb).2, HXT.out W ⟨hW.at_ 4 rfl, hW.at_ 5 rfl, trivial⟩ b hb⟩⟩⟩)
       have hX0 := hW12.drew
       clear hW12 hV11 hO9 hb9 q11 z11 hV6 q6
       refine wp_region_any (by kernel_rfl) ?_
       change wpAny _ _ _ _ _ _ _ (World.drew _)
       refine wpAny_ready (rs := [0, 1]) (by kernel_rfl) (by simp) ?_
       refine AllReady.cons rfl (fun K hK => ?_) ?_
       ·rw [if_pos (by simp [Region.wanted])]
        refine wp_load_mid 25 (.tmp 2) rfl g 0 rfl (envC kind Ap np cp A9 (ns + 1) c9) _ (Cells.range (hX0.at_ 9 rfl)) Try.underlying25 rfl (by kernel_rfl) ?_
        refine hK _ _ ?_
        clear hK K
        refine wpAny_ready (rs := [1, 2]) (by kernel_rfl) (by simp) ?_
        refine AllReady.cons rfl (fun K hK => ?_) ?_
        ·rw [if_pos (by simp [Region.wanted])]
         refine wp_load_mid 43 (.tmp 7) rfl g7 0 rfl (siCells s' h' n') _ (Cells.range (hX0.at_ 2 rfl)) Try.underlying43 rfl (by rw [si_len _ _ _ HS16.out]; kernel_rfl) ?_
         refine hK _ _ ?_
         clear hK K
         refine wpAny_ready (rs := [2]) (by kernel_rfl) (by simp) ?_
         refine AllReady.cons rfl (fun K hK => ?_) ?_
         ·rw [if_pos (by simp [Region.wanted])]
          refine wp_store_at hX0 7 25 (.tmp 4) (.tmp 62) rfl (g + 1 + 1) _ _ (envC kind Ap np cp A9 (ns + 1) c9) rfl rfl rfl (rfl) (by kernel_rfl) (envC_one _ _ _ _ _ _ _) (⟨own_below (by omega), by simp [Res.apart] <;> omega, by simp [Res.apart] <;> omega, by simp [Res.apart] <;> omega, own_below (by omega), own_below (by omega), by simp [Res.apart] <;> omega, by simp [Res.apart] <;> omega, by simp [Res.apart] <;> omega, by simp [Res.apart, Low.kss] <;> omega, by simp [Res.apart, Low.rd] <;> omega, by simp [Res.apart] <;> omega, trivial⟩) ?_
          intro w11 h11 z11
          simp only [List.set_cons_zero, List.set_cons_succ] at h11
          refine hK _ _ ?_
          clear hK K
          refine wpAny_ready (rs := [3]) (by kernel_rfl) (by simp) ?_
          refine AllReady.cons rfl (fun K hK => ?_) ?_
          ·rw [if_pos (by simp [Region.wanted])]
           refine wp_store_at h11 6 43 (.tmp 5) (.tmp 63) rfl (g + 1 + 1 + 1) _ _ (siCells s' h' n') rfl rfl rfl (by rw [si_len _ _ _ HS16.out]; rfl) (by rw [si_len _ _ _ HS16.out]; kernel_rfl) (si_one _ _ _) (⟨own_below (by omega), by simp [Res.apart] <;> omega, by simp [Res.apart] <;> omega, by simp [Res.apart] <;> omega, own_below (by omega), own_below (by omega), by simp [Res.apart] <;> omega, by simp [Res.apart] <;> omega, by simp [Res.apart] <;> omega, by simp [Res.apart, Low.kss] <;> omega, by simp [Res.apart, Low.rd] <;> omega, by simp [Res.apart] <;> omega, trivial⟩) ?_
           intro w21 h21 z21
           simp only [List.set_cons_zero, List.set_cons_succ] at h21
           refine hK _ _ ?_
           clear hK K
           refine wpAny_ready (rs := [4]) (by kernel_rfl) (by simp) ?_
           refine AllReady.cons rfl (fun K hK => ?_) ?_
           ·rw [if_pos (by simp [Region.wanted])]
            go_simp
            refine hK _ _ ?_
            clear hK K
            refine wpAny_done (by kernel_rfl) ?_ _
            go_wp2_with fail
            refine bodyPost_ret (v := .tuple #[.agg (envC kind Ap np cp A9 (ns + 1) c9).toArray, .agg (siCells s' h' n').toArray, .int .i64 0]) ?_ rfl (HFIN.out _ h21)
            exact results_row_row_tmp (p := 4) (p2 := 5) (q := 6) rfl _ _ (g + 1 + 1) 25 (envC kind Ap np cp A9 (ns + 1) c9).toArray (0, 0) _ rfl (h21.at_ 7 rfl) Try.underlying25 rfl (by kernel_rfl) (g + 1 + 1 + 1) 43 (siCells s' h' n').toArray (0, 0) _ rfl (h21.at_ 6 rfl) Try.underlying43 rfl (by rw [List.size_toArray, si_len _ _ _ HS16.out]; kernel_rfl)
           exact AllReady.nil
          exact AllReady.nil
         exact AllReady.nil
        refine AllReady.cons rfl (fun K hK => ?_) ?_
        ·rw [if_pos (by simp [Region.wanted])]
         refine wp_store_at hX0 7 25 (.tmp 4) (.tmp 62) rfl (g + 1 + 1) _ _ (envC kind Ap np cp A9 (ns + 1) c9) rfl rfl rfl (rfl) (by kernel_rfl) (envC_one _ _ _ _ _ _ _) (⟨own_below (by omega), by simp [Res.apart] <;> omega, by simp [Res.apart] <;> omega, by simp [Res.apart] <;> omega, own_below (by omega), own_below (by omega), by simp [Res.apart] <;> omega, by simp [Res.apart] <;> omega, by simp [Res.apart] <;> omega, by simp [Res.apart, Low.kss] <;> omega, by simp [Res.apart, Low.rd] <;> omega, by simp [Res.apart] <;> omega, trivial⟩) ?_
         intro w31 h31 z31
         simp only [List.set_cons_zero, List.set_cons_succ] at h31
         refine hK _ _ ?_
         clear hK K
         refine wpAny_ready (rs := [1]) (by kernel_rfl) (by simp) ?_
         refine AllReady.cons rfl (fun K hK => ?_) ?_
         ·rw [if_pos (by simp [Region.wanted])]
          refine wp_load_mid 43 (.tmp 7) rfl g7 0 rfl (siCells s' h' n') _ (Cells.range (h31.at_ 2 rfl)) Try.underlying43 rfl (by rw [si_len _ _ _ HS16.out]; kernel_rfl) ?_
          refine hK _ _ ?_
          clear hK K
          refine wpAny_ready (rs := [3]) (by kernel_rfl) (by simp) ?_
          refine AllReady.cons rfl (fun K hK => ?_) ?_
          ·rw [if_pos (by simp [Region.wanted])]
           refine wp_store_at h31 6 43 (.tmp 5) (.tmp 63) rfl (g + 1 + 1 + 1) _ _ (siCells s' h' n') rfl rfl rfl (by rw [si_len _ _ _ HS16.out]; rfl) (by rw [si_len _ _ _ HS16.out]; kernel_rfl) (si_one _ _ _) (⟨own_below (by omega), by simp [Res.apart] <;> omega, by simp [Res.apart] <;> omega, by simp [Res.apart] <;> omega, own_below (by omega), own_below (by omega), by simp [Res.apart] <;> omega, by simp [Res.apart] <;> omega, by simp [Res.apart] <;> omega, by simp [Res.apart, Low.kss] <;> omega, by simp [Res.apart, Low.rd] <;> omega, by simp [Res.apart] <;> omega, trivial⟩) ?_
           intro w41 h41 z41
           simp only [List.set_cons_zero, List.set_cons_succ] at h41
           refine hK _ _ ?_
           clear hK K
           refine wpAny_ready (rs := [4]) (by kernel_rfl) (by simp) ?_
           refine AllReady.cons rfl (fun K hK => ?_) ?_
           ·rw [if_pos (by simp [Region.wanted])]
            go_simp
            refine hK _ _ ?_
            clear hK K
            refine wpAny_done (by kernel_rfl) ?_ _
            go_wp2_with fail
            refine bodyPost_ret (v := .tuple #[.agg (envC kind Ap np cp A9 (ns + 1) c9).toArray, .agg (siCells s' h' n').toArray, .int .i64 0]) ?_ rfl (HFIN.out _ h41)
            exact results_row_row_tmp (p := 4) (p2 := 5) (q := 6) rfl _ _ (g + 1 + 1) 25 (envC kind Ap np cp A9 (ns + 1) c9).toArray (0, 0) _ rfl (h41.at_ 7 rfl) Try.underlying25 rfl (by kernel_rfl) (g + 1 + 1 + 1) 43 (siCells s' h' n').toArray (0, 0) _ rfl (h41.at_ 6 rfl) Try.underlying43 rfl (by rw [List.size_toArray, si_len _ _ _ HS16.out]; kernel_rfl)
           exact AllReady.nil
          exact AllReady.nil
         exact AllReady.nil
        exact AllReady.nil
       refine AllReady.cons rfl (fun K hK => ?_) ?_
       ·rw [if_pos (by simp [Region.wanted])]
        refine wp_load_mid 43 (.tmp 7) rfl g7 0 rfl (siCells s' h' n') _ (Cells.range (hX0.at_ 2 rfl)) Try.underlying43 rfl (by rw [si_len _ _ _ HS16.out]; kernel_rfl) ?_
        refine hK _ _ ?_
        clear hK K
        refine wpAny_ready (rs := [0]) (by kernel_rfl) (by simp) ?_
        refine AllReady.cons rfl (fun K hK => ?_) ?_
        ·rw [if_pos (by simp [Region.wanted])]
         refine wp_load_mid 25 (.tmp 2) rfl g 0 rfl (envC kind Ap np cp A9 (ns + 1) c9) _ (Cells.range (hX0.at_ 9 rfl)) Try.underlying25 rfl (by kernel_rfl) ?_
         refine hK _ _ ?_
         clear hK K
         refine wpAny_ready (rs := [2]) (by kernel_rfl) (by simp) ?_
         refine AllReady.cons rfl (fun K hK => ?_) ?_
         ·rw [if_pos (by simp [Region.wanted])]
          refine wp_store_at hX0 7 25 (.tmp 4) (.tmp 62) rfl (g + 1 + 1) _ _ (envC kind Ap np cp A9 (ns + 1) c9) rfl rfl rfl (rfl) (by kernel_rfl) (envC_one _ _ _ _ _ _ _) (⟨own_below (by omega), by simp [Res.apart] <;> omega, by simp [Res.apart] <;> omega, by simp [Res.apart] <;> omega, own_below (by omega), own_below (by omega), by simp [Res.apart] <;> omega, by simp [Res.apart] <;> omega, by simp [Res.apart] <;> omega, by simp [Res.apart, Low.kss] <;> omega, by simp [Res.apart, Low.rd] <;> omega, by simp [Res.apart] <;> omega, trivial⟩) ?_
          intro w51 h51 z51
          simp only [List.set_cons_zero, List.set_cons_succ] at h51
          refine hK _ _ ?_
          clear hK K
          refine wpAny_ready (rs := [3]) (by kernel_rfl) (by simp) ?_
          refine AllReady.cons rfl (fun K hK => ?_) ?_
          ·rw [if_pos (by simp [Region.wanted])]
           refine wp_store_at h51 6 43 (.tmp 5) (.tmp 63) rfl (g + 1 + 1 + 1) _ _ (siCells s' h' n') rfl rfl rfl (by rw [si_len _ _ _ HS16.out]; rfl) (by rw [si_len _ _ _ HS16.out]; kernel_rfl) (si_one _ _ _) (⟨own_below (by omega), by simp [Res.apart] <;> omega, by simp [Res.apart] <;> omega, by simp [Res.apart] <;> omega, own_below (by omega), own_below (by omega), by simp [Res.apart] <;> omega, by simp [Res.apart] <;> omega, by simp [Res.apart] <;> omega, by simp [Res.apart, Low.kss] <;> omega, by simp [Res.apart, Low.rd] <;> omega, by simp [Res.apart] <;> omega, trivial⟩) ?_
           intro w61 h61 z61
           simp only [List.set_cons_zero, List.set_cons_succ] at h61
           refine hK _ _ ?_
           clear hK K
           refine wpAny_ready (rs := [4]) (by kernel_rfl) (by simp) ?_
           refine AllReady.cons rfl (fun K hK => ?_) ?_
           ·rw [if_pos (by simp [Region.wanted])]
            go_simp
            refine hK _ _ ?_
            clear hK K
            refine wpAny_done (by kernel_rfl) ?_ _
            go_wp2_with fail
            refine bodyPost_ret (v := .tuple #[.agg (envC kind Ap np cp A9 (ns + 1) c9).toArray, .agg (siCells s' h' n').toArray, .int .i64 0]) ?_ rfl (HFIN.out _ h61)
            exact results_row_row_tmp (p := 4) (p2 := 5) (q := 6) rfl _ _ (g + 1 + 1) 25 (envC kind Ap np cp A9 (ns + 1) c9).toArray (0, 0) _ rfl (h61.at_ 7 rfl) Try.underlying25 rfl (by kernel_rfl) (g + 1 + 1 + 1) 43 (siCells s' h' n').toArray (0, 0) _ rfl (h61.at_ 6 rfl) Try.underlying43 rfl (by rw [List.size_toArray, si_len _ _ _ HS16.out]; kernel_rfl)
           exact AllReady.nil
          exact AllReady.nil
         exact AllReady.nil
        exact AllReady.nil
       exact AllReady.nil

end Go.Proofs.Ytfakjamocpamiaa

/- envelope.Sign. -/
import Derived.Test.YtfakjamocpamiaaEnvB
import Derived.Test.YtfakjamocpamiaaEnvE
import Derived.Test.YtfakjamocpamiaaEnvM
set_option linter.unusedSimpArgs false
set_option linter.unusedVariables false
set_option maxRecDepth 100000
namespace Go.Adm
open Go Go.RowKit Go.Proofs.Ytfakjamocpamiaa
/-- an envelope, as it lies in memory -/
def EnvAt (w : World) (B : Nat) (R : EnvR) (cs : List Value) : Prop := ∃ Ap np cp As ns cc l, cs = envC R.kind Ap np cp As ns cc ∧ R.pay.length = np ∧ Rd w B 1 Ap np (R.pay.map bv) ∧ R.sigs = List.map Ks.s l ∧ Kss w B As ns l ∧ np ≤ cp ∧ cp ≤ maxLen ∧ ns ≤ cc ∧ cc ≤ maxLen
theorem EnvAt.zero {w : World} {B : Nat} : EnvAt w B envR0 envZ := ⟨none, 0, 0, none, 0, 0, [], rfl, rfl, Rd.nil, rfl, Kss.nil, Nat.le_refl _, Nat.zero_le _, Nat.le_refl _, Nat.zero_le _⟩
theorem EnvAt.keep {w w' : World} {B : Nat} {R : EnvR} {cs : List Value} (h : EnvAt w B R cs) (hk : ∀ p : Addr, p.block < B → w'.cell? p = w.cell? p) : EnvAt w' B R cs := by
 obtain ⟨Ap, np, cp, As, ns, cc, l, h1, h2, h3, h4, h5, h6⟩ := h
 exact ⟨Ap, np, cp, As, ns, cc, l, h1, h2, h3.keep hk, h4, h5.keep hk, h6⟩
theorem EnvAt.mono {w : World} {B B' : Nat} {R : EnvR} {cs : List Value} (h : EnvAt w B R cs) (hB : B ≤ B') : EnvAt w B' R cs := by
 obtain ⟨Ap, np, cp, As, ns, cc, l, h1, h2, h3, h4, h5, h6⟩ := h
 exact ⟨Ap, np, cp, As, ns, cc, l, h1, h2, h3.mono hB, h4, h5.mono hB, h6⟩
def Low.env (B : Nat) (R : EnvR) (cs : List Value) : Low := ⟨B, fun w => EnvAt w B R cs, fun _ _ hk h => h.keep hk⟩
/-- what signing gives -/
def SignPostE (S : EnvR × List Value × Int) (w : World) (e : Ending) (w' : World) : Prop :=
 ∃ cs, e = .returned (.tuple #[.agg cs.toArray, .agg S.2.1.toArray, .int .i64 S.2.2]) ∧ EnvAt w' w'.heap.size S.1 cs ∧ Below w.heap.size w w'
theorem siz_one : ∀ v ∈ siz, v.oneCell' = true := si_one (List.replicate 16 0) 0 0
theorem signR_zero {seed d : List UInt8} {h n : Int} (e : (signR seed d h n).err = 0) : ∃ kh : Nat, h = kh ∧ kh ≤ 6 := by
 unfold signR at e
 split at e
 ·exact absurd e (by decide)
 ·rename_i h1
  have h3 : hOk h = true := by cases hq : hOk h <;> simp_all
  have h4 := (hOk_iff h).1 h3
  exact ⟨h.toNat, by omega, by omega⟩
theorem fill_ks (x : Ks) (h : x.r.length = 16) : Instr.fill (#[(0, 17), (17, 3)][·]?) ksZ.toArray [(0, .agg (pkCells x.h x.r).toArray), (1, .agg (sgCells x.leaf x.Ac x.chain.length x.cc x.Ap x.path.length x.cp).toArray)] = some (ksC x).toArray := by
 refine (fill_step (off := 0) (size := 17) (es := pkCells x.h x.r) (pre := []) (old := pkCells 0 z16) (post := sgCells 0 none 0 0 none 0 0) rfl rfl rfl rfl rfl (by first | (rw [pkLen h]; done) | (rw [pkLen h]; rfl))).trans ?_
 refine (fill_step (off := 17) (size := 3) (es := sgCells x.leaf x.Ac x.chain.length x.cc x.Ap x.path.length x.cp) (pre := pkCells x.h x.r) (old := sgCells 0 none 0 0 none 0 0) (post := []) rfl (by simp) (by rw [pkLen h]) rfl rfl rfl).trans ?_
 simp [Instr.fill, ksC]
theorem env_set2 (kind : ByteArray) (Ap : Option Addr) (np cp : Nat) (As : Option Addr) (ns cs : Nat) (A : Option Addr) (n c : Nat) : (envC kind Ap np cp As ns cs).set 2 (.slice A n c) = envC kind Ap np cp A n c := rfl
end Go.Adm
namespace Go.Proofs.Ytfakjamocpamiaa
open Go Go.RowKit Go.Adm
set_option maxHeartbeats 12800000 in
theorem SignE_any (w : World) (B : Nat) (R : EnvR) (cs : List Value) (seed : List UInt8) (h n : Int) (hE : EnvAt w B R cs) (hs : seed.length = 16) (hk : R.kind.size ≤ 140737488355328) (hpl : R.pay.length ≤ 140737488355000) (hsl : R.sigs.length ≤ 1000000) (hB : B ≤ w.heap.size) :
  Calls Try.prog 19 #[.agg cs.toArray, .agg (siCells seed h n).toArray] w (SignPostE (signE R seed h n) w) := by
 obtain ⟨Ap, np, cp, As, ns, cc, l, rfl, hpn, hp, hlm, hl, hcp1, hcp2, hcs1, hcs2⟩ := hE
 obtain ⟨kind, pay, sigs⟩ := R
 dsimp only at *
 subst hlm
 rw [List.length_map, hl.len] at hsl
 rw [hpn] at hpl
 have HN := Lib.hid hl.len
 have HPN := Lib.hid hpn
 have HVR := Lib.hid (validK_R (kind := kind) (l := l) hpn)
 have HSL := Lib.hid hs
 have hR : All w [.low (.kss B As ns l), .low (.rd B 1 Ap np (pay.map bv)), .kept w w.heap.size] := ⟨⟨hl, hB⟩, ⟨hp, hB⟩, ⟨Below.refl _ _, Nat.le_refl _⟩, trivial⟩
 clear hl hp hs hpn
 have hze := zero_env
 have hzs := zero_si
 have hzg := zero_sg
 have hzp := zero_pk
 go_enter Try.func19, Try.ntmps19
 go_upto_region 1 with (fail)
 obtain ⟨g, hg⟩ : ∃ g, g = w.heap.size := ⟨_, rfl⟩
 have hBg : B ≤ g := by omega
 have hgw : w.heap.size ≤ g := by omega
 refine wp_gen ((((hR.new (l := envC kind Ap np cp As ns cc) (g := g) _ 25 hg rfl).new (l := siCells seed h n) (g := g + 1) _ 43 (by simp [hg]) rfl).new (l := envZ) (g := g + 1 + 1) _ 25 (by simp [hg]) rfl).new (l := siz) (g := g + 1 + 1 + 1) _ 43 (by simp [hg]) rfl) ?_
 intro W1 hW1
 simp only [← hg]
 clear hR hg
 have hva := ValidE_any W1 B kind Ap np cp As ns cc l (hW1.at_ 4 rfl : Kss W1 B As ns l ∧ _).1 hk (by omega) (by omega) (hW1.at_ 4 rfl : _ ∧ B ≤ W1.heap.size).2
 obtain ⟨vb, hvb⟩ : ∃ vb, validR ⟨kind, pay, l.map Ks.s⟩ = vb := ⟨_, rfl⟩
 rw [HVR.out, hvb] at hva
 have HVB := Lib.hid hvb
 clear hvb
 cases vb with
 | false =>
  have hv := HVB.out
  have HS : Hid (signE ⟨kind, pay, l.map Ks.s⟩ seed h n = (envR0, siz, 1)) := Lib.hid (by unfold signE; rw [if_pos hv])
  clear hv
  go_upto_region 2 with (first
   | (refine wl_load_any rfl 25 (.tmp 2) rfl ⟨g, 0, none⟩ rfl (envC kind Ap np cp As ns cc) _ (Cells.sub (hW1.at_ 3 rfl) 0 (fun j u h => by rwa [Nat.zero_add])) Try.underlying25 rfl (by kernel_rfl) ?_)
   | (go_at_call 11; refine hva.mono ?_; clear hva; rintro e w2 ⟨rfl, hb2⟩; have hI := hW1.call hb2; clear hW1 hb2))
  go_wp2_with (first
   | (refine wl_build rfl 25 [] rfl _ _ #[(0, 1), (1, 1), (2, 1)] envZ.toArray zero_env Try.underlying25 (fun w => by kernel_rfl) rfl ?_)
   | (refine wl_build rfl 43 [] rfl _ _ #[(0, 16), (16, 1), (17, 1)] siz.toArray zero_si Try.underlying43 (fun w => by kernel_rfl) rfl ?_)
   | (refine wl_store_at hI 1 rfl 25 (.tmp 4) (.tmp 18) rfl (g + 1 + 1) _ _ envZ rfl rfl rfl rfl (by kernel_rfl) (envC_one _ _ _ _ _ _ _) (by simp [Apart, Res.apart, Low.kss, Low.rd, Low.els, *] <;> omega) ?_; intro W8 hI8 hs8; simp only [List.set_cons_zero, List.set_cons_succ] at hI8)
   | (refine wl_store_at hI8 0 rfl 43 (.tmp 5) (.tmp 19) rfl (g + 1 + 1 + 1) _ _ siz rfl rfl rfl rfl (by kernel_rfl) siz_one (by simp [Apart, Res.apart, Low.kss, Low.rd, Low.els, *] <;> omega) ?_; intro W9 hI9 hs9; simp only [List.set_cons_zero, List.set_cons_succ] at hI9))
  refine bodyPost_ret (v := .tuple #[.agg envZ.toArray, .agg siz.toArray, .int .i64 1]) ?_ rfl ⟨envZ, by rw [HS.out], by rw [HS.out]; exact EnvAt.zero, (hI9.at_ 6 rfl : _ ∧ _).1⟩
  exact results_row_row_tmp (p := 4) (p2 := 5) (q := 6) rfl _ _ (g + 1 + 1) 25 envZ.toArray (0, 0) _ rfl (hI9.at_ 1 rfl) Try.underlying25 rfl (by kernel_rfl) (g + 1 + 1 + 1) 43 siz.toArray (0, 0) _ rfl (hI9.at_ 0 rfl) Try.underlying43 rfl (by kernel_rfl)
 | true =>
  have hv := HVB.out
  obtain ⟨m, hm⟩ : ∃ m, msgS kind pay = m := ⟨_, rfl⟩
  obtain ⟨S, hS⟩ : ∃ S, signR seed m h n = S := ⟨_, rfl⟩
  have HS1 : Hid (S.err ≠ 0 → signE ⟨kind, pay, l.map Ks.s⟩ seed h n = (envR0, siz, S.err)) := Lib.hid (fun he => by unfold signE; rw [if_neg (by rw [hv]; decide)]; dsimp only; rw [hm, hS, if_pos he])
  have HS0 : Hid (S.err = 0 → ∃ kh : Nat, h = kh ∧ kh ≤ 6 ∧ (hasK l (idS kh (rootS seed kh)) = true → signE ⟨kind, pay, l.map Ks.s⟩ seed h n = (envR0, siz, 5)) ∧ (hasK l (idS kh (rootS seed kh)) = false → ns = 8 → signE ⟨kind, pay, l.map Ks.s⟩ seed h n = (envR0, siz, 3)) ∧ (hasK l (idS kh (rootS seed kh)) = false → ns ≠ 8 → signE ⟨kind, pay, l.map Ks.s⟩ seed h n = (⟨kind, pay, putG (l.map Ks.s) ⟨kh, rootS seed kh, S.leaf, S.chain, S.path⟩⟩, S.si, 0))) := Lib.hid (fun he => by
   obtain ⟨kh, hk1, hk2⟩ := signR_zero (show (signR seed m h n).err = 0 by rw [hS]; exact he)
   have hlen : (l.map Ks.s).length = ns := by rw [List.length_map, HN.out]
   refine ⟨kh, hk1, hk2, fun h1 => ?_, fun h1 h2 => ?_, fun h1 h2 => ?_⟩
   all_goals (unfold signE; rw [if_neg (by rw [hv]; decide)]; dsimp only; rw [hm, hS, if_neg (by rw [he]; decide), hk1, Int.toNat_natCast])
   ·rw [if_pos (by unfold hasK at h1; exact h1)]
   ·rw [if_neg (by unfold hasK at h1; rw [h1]; decide), if_pos (by rw [hlen]; exact h2)]
   ·rw [if_neg (by unfold hasK at h1; rw [h1]; decide), if_neg (by rw [hlen]; exact h2)])
  have HSO : Hid (SgnOk S) := Lib.hid (by rw [← hS]; exact signR_ok seed m h n HSL.out)
  have HSC : Hid (S.chain.length ≤ 1000000 ∧ S.path.length ≤ 1000000) := Lib.hid ⟨by have := HSO.out.nc; omega, by have := HSO.out.np; omega⟩
  have HSORT : Hid (SortK l) := Lib.hid (sortK_iff.2 (validR_iff.1 hv).2.2.2.2)
  have HML : Hid (m.length = 32) := Lib.hid (by rw [← hm]; exact msgS_len _ _)
  have HM := Lib.hid hm
  have HSE := Lib.hid hS
  have HKB : Hid (∀ x ∈ l, x.chain.length ≤ 1000000 ∧ x.path.length ≤ 1000000) := Lib.hid (fun x hx => by
   have h1 := (validR_iff.1 hv).2.2.2.1 x.s (List.mem_map_of_mem hx)
   have h2 : shapedB x.h x.leaf x.chain.length x.path.length = true := h1
   unfold shapedB at h2
   simp only [Bool.and_eq_true, decide_eq_true_eq, beq_iff_eq] at h2
   obtain ⟨h3, _, _, h4, h5⟩ := h2
   have h6 := (hOk_iff _).1 h3
   omega)
  have hsW : ∀ W, All W [.cells (g + 1 + 1 + 1) 43 siz, .cells (g + 1 + 1) 25 envZ, .cells (g + 1) 43 (siCells seed h n), .cells g 25 (envC kind Ap np cp As ns cc), .low (.kss B As ns l), .low (.rd B 1 Ap np (pay.map bv)), .kept w w.heap.size] → g + 1 + 1 + 1 + 1 ≤ W.heap.size := fun W hW => Cells.lt (hW.at_ 0 rfl)
  clear hv hm hS
  go_upto_region 3 with (first
   | (refine wl_load_any rfl 25 (.tmp 2) rfl ⟨g, 0, none⟩ rfl (envC kind Ap np cp As ns cc) _ (Cells.sub (hW1.at_ 3 rfl) 0 (fun j u h => by rwa [Nat.zero_add])) Try.underlying25 rfl (by kernel_rfl) ?_)
   | (go_at_call 11; refine hva.mono ?_; clear hva; rintro e w2 ⟨rfl, hb2⟩; have hI := hW1.call hb2; clear hW1 hb2))
  refine wp_region_hops_late 13 9 11 [21, 22, 23, 24, 25, 26, 27, 20, 28, 29, 30, 7, 8] _
   [.eq (.agg (siCells seed h n).toArray), .eq (.pointer (some ⟨g, 0, none⟩)), .eq (.string kind), .eq (.pointer (some ⟨g, 1, none⟩)), .eq (.slice Ap np cp), .eq (.agg (m.map bv).toArray), .sgn (g + 1 + 1 + 1 + 1) 41 S, .sgn (g + 1 + 1 + 1 + 1) 41 S, .eq (.agg S.si.toArray), .sgc (g + 1 + 1 + 1 + 1) 41 S, .eq (.int .i64 S.err), .box (g + 1 + 1 + 1 + 1) 43 siz, .box (g + 1 + 1 + 1 + 1) 60 sgz]
   (by kernel_rfl) (by kernel_rfl) (fun _ t _ _ _ h => by cases t <;> exact h) hI rfl ?hops ?flts ?fin
  case hops =>
   refine ⟨?_, ?_, ?_, ?_, ?_, ?_, ?_, ?_, ?_, ?_, ?_, ?_, ?_, trivial⟩
   ·intro a W hW hb hd K hK
    have b3 := hb 3 rfl
    refine wp_load_any 43 (.tmp 3) rfl ⟨g + 1, 0, none⟩ (show a.eval (.tmp 3) = _ from by simp only [Act.eval, Array.getD_eq_getD_getElem?]; exact b3) (siCells seed h n) _ (Cells.sub (hW.at_ 2 rfl) 0 (fun j u h => by rwa [Nat.zero_add])) Try.underlying43 rfl (by rw [si_len _ _ _ HSL.out]; kernel_rfl) ?_
    exact hK _ _ (World.grownBy.refl _ _) rfl
   ·intro a W hW hb hd K hK
    have b2 := hb 2 rfl
    go_simp
    exact hK _ _ (World.grownBy.refl _ _) rfl
   ·intro a W hW hb hd K hK
    have b22 : a.tmps[22]?.getD undef = _ := hd ⟨1, .data⟩ (by simp) rfl
    have q1 := (env_cells kind Ap np cp As ns cc (hW.at_ 3 rfl)).1
    go_simp
    exact hK _ _ (World.grownBy.refl _ _) rfl
   ·intro a W hW hb hd K hK
    have b2 := hb 2 rfl
    go_simp
    exact hK _ _ (World.grownBy.refl _ _) rfl
   ·intro a W hW hb hd K hK
    have b24 : a.tmps[24]?.getD undef = _ := hd ⟨3, .data⟩ (by simp) rfl
    have q1 := (env_cells kind Ap np cp As ns cc (hW.at_ 3 rfl)).2.1
    go_simp
    exact hK _ _ (World.grownBy.refl _ _) rfl
   ·intro a W hW hb hd K hK
    have b23 : a.tmps[23]?.getD undef = _ := hd ⟨2, .data⟩ (by simp) rfl
    have b25 : a.tmps[25]?.getD undef = _ := hd ⟨4, .data⟩ (by simp) rfl
    have hme := Message_any W B kind Ap np cp pay (hW.at_ 5 rfl : Rd W B 1 Ap np (pay.map bv) ∧ _).1 hk (by omega) (hW.at_ 5 rfl : _ ∧ B ≤ W.heap.size).2
    go_simp
    refine hme.mono ?_
    rw [HM.out]
    rintro e w' ⟨rfl, hb'⟩
    exact hK _ _ (grown_of_below hb') rfl
   ·intro a W hW hb hd K hK
    have b21 : a.tmps[21]?.getD undef = _ := hd ⟨0, .data⟩ (by simp) rfl
    have b26 : a.tmps[26]?.getD undef = _ := hd ⟨5, .data⟩ (by simp) rfl
    have hsz := hsW W hW
    go_simp
    refine (Sign_own W seed m h n HSL.out HML.out).mono ?_
    rw [HSE.out]
    rintro e w' ⟨Ac, cc', Aq, cq, rfl, h1, h2, h3, hb'⟩
    exact hK _ _ (grown_of_below hb') ⟨Nat.le_trans hsz hb'.size, Ac, cc', Aq, cq, rfl, h1.less hsz, h2.less hsz, h3⟩
   ·intro a W hW hb hd K hK
    have q27 : VF.ok (.sgn (g + 1 + 1 + 1 + 1) 41 S) (a.tmps[27]?.getD undef) W := hd ⟨6, .data⟩ (by simp) rfl
    go_simp
    exact hK _ _ (World.grownBy.refl _ _) q27
   ·intro a W hW hb hd K hK
    obtain ⟨hsz, Ac, cc', Aq, cq, q20, h1, h2, h3⟩ := (hd ⟨7, .data⟩ (by simp) rfl : VF.ok (.sgn (g + 1 + 1 + 1 + 1) 41 S) (a.tmps[20]?.getD undef) W)
    replace q20 : a.tmps[20]?.getD undef = _ := q20
    go_simp
    exact hK _ _ (World.grownBy.refl _ _) rfl
   ·intro a W hW hb hd K hK
    obtain ⟨hsz, Ac, cc', Aq, cq, q20, h1, h2, h3⟩ := (hd ⟨7, .data⟩ (by simp) rfl : VF.ok (.sgn (g + 1 + 1 + 1 + 1) 41 S) (a.tmps[20]?.getD undef) W)
    replace q20 : a.tmps[20]?.getD undef = _ := q20
    go_simp
    exact hK _ _ (World.grownBy.refl _ _) ⟨hsz, Ac, cc', Aq, cq, rfl, h1, h2, h3⟩
   ·intro a W hW hb hd K hK
    obtain ⟨hsz, Ac, cc', Aq, cq, q20, h1, h2, h3⟩ := (hd ⟨7, .data⟩ (by simp) rfl : VF.ok (.sgn (g + 1 + 1 + 1 + 1) 41 S) (a.tmps[20]?.getD undef) W)
    replace q20 : a.tmps[20]?.getD undef = _ := q20
    go_simp
    exact hK _ _ (World.grownBy.refl _ _) rfl
   ·intro a W hW hb hd K hK
    go_simp
    exact hK _ _ (grown_alloc _ _) ⟨_, rfl, hsW W hW, Cells.new _ _ _⟩
   ·intro a W hW hb hd K hK
    go_simp
    exact hK _ _ (grown_alloc _ _) ⟨_, rfl, hsW W hW, Cells.new _ _ _⟩
  case flts =>
   refine ⟨?_, ?_, trivial⟩
   ·intro a W hW hb hd
    obtain ⟨hsz, Ac, cc', Aq, cq, q20, h1, h2, h3⟩ := (hd ⟨7, .data⟩ (by simp) rfl : VF.ok (.sgn (g + 1 + 1 + 1 + 1) 41 S) (a.tmps[20]?.getD undef) W)
    replace q20 : a.tmps[20]?.getD undef = _ := q20
    refine ⟨.agg (sgCells S.leaf Ac S.chain.length cc' Aq S.path.length cq).toArray, .inl ⟨rfl, fun w => ?_⟩, ⟨hsz, Ac, cc', Aq, cq, rfl, h1, h2, h3⟩⟩
    go_simp
   ·intro a W hW hb hd
    obtain ⟨hsz, Ac, cc', Aq, cq, q20, h1, h2, h3⟩ := (hd ⟨7, .data⟩ (by simp) rfl : VF.ok (.sgn (g + 1 + 1 + 1 + 1) 41 S) (a.tmps[20]?.getD undef) W)
    replace q20 : a.tmps[20]?.getD undef = _ := q20
    refine ⟨.int .i64 S.err, .inl ⟨rfl, fun w => ?_⟩, rfl⟩
    go_simp
  case fin =>
   intro vs V hV hv
   have e8 : vs 8 = _ := hv 8 (by decide)
   have e10 : vs 10 = _ := hv 10 (by decide)
   obtain ⟨hsz, Ac, ccc, Aq, cq, e9, hO1, hO2, hO3⟩ := (hv 9 (by decide) : VF.ok (.sgc (g + 1 + 1 + 1 + 1) 41 S) (vs 9) V)
   obtain ⟨g7, e11, hg7, hC7⟩ := (hv 11 (by decide) : VF.ok (.box (g + 1 + 1 + 1 + 1) 43 siz) (vs 11) V)
   obtain ⟨g8, e12, hg8, hC8⟩ := (hv 12 (by decide) : VF.ok (.box (g + 1 + 1 + 1 + 1) 60 sgz) (vs 12) V)
   clear hv hI hsW
   simp only [putAll, List.drop_succ_cons, List.drop_zero, e8, e9, e10, e11, e12, Act.put, List.setIfInBounds_toArray, List.set_cons_succ, List.set_cons_zero]
   clear e8 e9 e10 e11 e12
   have hgg : g7 ≠ g8 := hC7.ne hC8 (by decide)
   have ha1 := hO1.ne_cells hC7 (by decide)
   have ha2 := hO2.ne_cells hC7 (by decide)
   have hb1 := hO1.ne_cells hC8 (by decide)
   have hb2 := hO2.ne_cells hC8 (by decide)
   obtain ⟨s', h', n', hsi, hs16, _⟩ := HSO.out.si
   have HSI := Lib.hid hsi
   have HS16 := Lib.hid hs16
   have hV1 : All V (.cells g7 43 siz :: .cells g8 60 sgz :: .own (g + 1 + 1 + 1 + 1) 41 16 Ac S.chain.length ccc (hvs S.chain).flatten :: .own (g + 1 + 1 + 1 + 1) 41 16 Aq S.path.length cq (hvs S.path).flatten :: [.cells (g + 1 + 1 + 1) 43 siz, .cells (g + 1 + 1) 25 envZ, .cells (g + 1) 43 (siCells seed h n), .cells g 25 (envC kind Ap np cp As ns cc), .low (.kss B As ns l), .low (.rd B 1 Ap np (pay.map bv)), .kept w w.heap.size]) := ⟨hC7, hC8, hO1, hO2, hV⟩
   clear hV hC7 hC8 hO1 hO2 hsz hsi hs16
   rw [HSI.out]
   refine wl_store_at hV1 0 rfl 43 (.tmp 7) (.tmp 28) rfl g7 _ _ (siCells s' h' n') rfl rfl rfl (by rw [si_len _ _ _ HS16.out]; rfl) (by rw [si_len _ _ _ HS16.out]; kernel_rfl) (si_one _ _ _) (by simp [Apart, Res.apart, Low.kss, Low.rd, hgg, hgg.symm, ha1, ha2] <;> omega) ?_
   intro V2 hV2 hs2
   refine wl_store_at hV2 1 rfl 60 (.tmp 8) (.tmp 29) rfl g8 _ _ (sgCells S.leaf Ac S.chain.length ccc Aq S.path.length cq) rfl rfl rfl rfl (by kernel_rfl) (sg_one _ _ _ _ _ _ _) (by simp [Apart, Res.apart, Low.kss, Low.rd, hgg, hgg.symm, hb1, hb2] <;> omega) ?_
   intro V3 hV3 hs3
   simp only [List.set_cons_zero, List.set_cons_succ] at hV3
   clear hV1 hV2 hs2 hs3
   by_cases herr : S.err = 0
   case neg =>
    have HS := Lib.hid (HS1.out herr)
    have d1 : (S.err != 0) = true := by simp [herr]
    have d1' : (S.err == 0) = false := by simp [herr]
    have hge1 : g < g7 := by omega
    have hge2 : g < g8 := by omega
    generalize S.err = er at *
    go_wp2_with (first
     | (refine wl_build rfl 25 [] rfl _ _ #[(0, 1), (1, 1), (2, 1)] envZ.toArray zero_env Try.underlying25 (fun w => by kernel_rfl) rfl ?_)
     | (refine wl_build rfl 43 [] rfl _ _ #[(0, 16), (16, 1), (17, 1)] siz.toArray zero_si Try.underlying43 (fun w => by kernel_rfl) rfl ?_)
     | (refine wl_store_at hV3 5 rfl 25 (.tmp 4) (.tmp 33) rfl (g + 1 + 1) _ _ envZ rfl rfl rfl rfl (by kernel_rfl) (envC_one _ _ _ _ _ _ _) (by simp [Apart, Res.apart, Low.kss, Low.rd] <;> omega) ?_; intro W8 hI8 hs8; simp only [List.set_cons_zero, List.set_cons_succ] at hI8)
     | (refine wl_store_at hI8 4 rfl 43 (.tmp 5) (.tmp 34) rfl (g + 1 + 1 + 1) _ _ siz rfl rfl rfl rfl (by kernel_rfl) siz_one (by simp [Apart, Res.apart, Low.kss, Low.rd] <;> omega) ?_; intro W9 hI9 hs9; simp only [List.set_cons_zero, List.set_cons_succ] at hI9))
    refine bodyPost_ret (v := .tuple #[.agg envZ.toArray, .agg siz.toArray, .int .i64 er]) ?_ rfl ⟨envZ, by rw [HS.out], by rw [HS.out]; exact EnvAt.zero, (hI9.at_ 10 rfl : _ ∧ _).1⟩
    exact results_row_row_tmp (p := 4) (p2 := 5) (q := 6) rfl _ _ (g + 1 + 1) 25 envZ.toArray (0, 0) _ rfl (hI9.at_ 5 rfl) Try.underlying25 rfl (by kernel_rfl) (g + 1 + 1 + 1) 43 siz.toArray (0, 0) _ rfl (hI9.at_ 4 rfl) Try.underlying43 rfl (by kernel_rfl)
   case pos =>
    obtain ⟨kh, hkh, hk6, hA5, hA3, hA0⟩ := HS0.out herr
    subst hkh
    have HA5 := Lib.hid hA5
    have HA3 := Lib.hid hA3
    have HA0 := Lib.hid hA0
    clear hA5 hA3 hA0
    obtain ⟨root, hroot⟩ : ∃ root, rootS seed kh = root := ⟨_, rfl⟩
    have HRT := Lib.hid hroot
    have HR16 : Hid (root.length = 16) := Lib.hid (by rw [← hroot]; exact rootS_len seed kh)
    have d1 : (S.err != 0) = false := by simp [herr]
    have d1' : (S.err == 0) = true := by simp [herr]
    have hge1 : g < g7 := by omega
    have hge2 : g < g8 := by omega
    have hnw := New_any V3 seed kh HSL.out hk6
    rw [hroot] at hnw
    have c16 := si_at16 HSL.out (hV3.at_ 6 rfl)
    clear hroot HS1 HS0 herr
    generalize S.err = er at *
    go_upto_region 7 with (first
     | (refine wl_load_any rfl 41 (.tmp 37) rfl ⟨g + 1, 0, none⟩ rfl (seed.map bv) _ (si_seed HSL.out (hV3.at_ 6 rfl)) Try.underlying41 rfl (by rw [List.length_map, HSL.out]; kernel_rfl) ?_)
     | (go_at_call 40; refine hnw.mono ?_; clear hnw; rintro e w4 ⟨rfl, hb4⟩; have hV4 := hV3.call hb4; clear hV3 hb4)
     | (refine wl_store_at (hV4.new (l := Value.int .i64 0 :: List.replicate 16 (Value.int .u8 0)) (g := w4.heap.size) _ 62 rfl rfl) 0 rfl 62 (.tmp 10) (.tmp 42) rfl w4.heap.size _ _ (pkCells kh root) rfl rfl rfl (by rw [pkLen HR16.out]; rfl) (by rw [pkLen HR16.out]; kernel_rfl) (pk_one _ _) (hV4.fresh (Nat.le_refl _) rfl) ?_; intro V5 hV5 hs5; simp only [List.set_cons_zero] at hV5))
    obtain ⟨gp, hgp⟩ : ∃ gp, gp = w4.heap.size := ⟨_, rfl⟩
    have hg7p : g7 < gp := by rw [hgp]; exact Cells.lt (hV4.at_ 0 rfl)
    have hg8p : g8 < gp := by rw [hgp]; exact Cells.lt (hV4.at_ 1 rfl)
    simp only [← hgp] at hV5 ⊢
    clear hV4 hs5 hgp c16 d1 d1'
    obtain ⟨id, hid⟩ : ∃ id, idS kh root = id := ⟨_, rfl⟩
    have HI32 : Hid (id.length = 32) := Lib.hid (by rw [← hid]; exact idS_len _ _)
    have HID := Lib.hid hid
    obtain ⟨pl, hpl2⟩ : ∃ pl, placeK l id = pl := ⟨_, rfl⟩
    have hple : pl ≤ ns := by rw [← hpl2, ← HN.out]; exact placeK_le l id
    have HPL := Lib.hid hpl2
    obtain ⟨hh, hhh⟩ : ∃ hh, hasK l id = hh := ⟨_, rfl⟩
    have HHH := Lib.hid hhh
    clear hid hpl2 hhh
    refine wp_region_hops 9 [45, 46, 47, 48, 49, 44, 50, 51, 12] _
     [.eq (.pointer (some ⟨g, 2, none⟩)), .eq (.slice As ns cc), .eq (.agg (pkCells kh root).toArray), .eq (.agg (id.map bv).toArray), .eq (.tuple #[.int .i64 pl, .bool hh]), .eq (.tuple #[.int .i64 pl, .bool hh]), .eq (.int .i64 pl), .eq (.bool hh), .eq (.int .i64 pl)]
     (by kernel_rfl) (by kernel_rfl) hV5 rfl ?hops2 ?fin2
    case hops2 =>
     refine ⟨?_, ?_, ?_, ?_, ?_, ?_, ?_, ?_, ?_, trivial⟩
     ·intro a W hW hb hd K hK
      have b2 := hb 2 rfl
      go_simp
      exact hK _ _ (World.grownBy.refl _ _) rfl
     ·intro a W hW hb hd K hK
      have b45 : a.tmps[45]?.getD undef = _ := hd ⟨0, .data⟩ (by simp) rfl
      have q1 := (env_cells kind Ap np cp As ns cc (hW.at_ 8 rfl)).2.2
      go_simp
      exact hK _ _ (World.grownBy.refl _ _) rfl
     ·intro a W hW hb hd K hK
      have b10 := hb 10 rfl
      refine wp_load_any 62 (.tmp 10) rfl ⟨gp, 0, none⟩ (show a.eval (.tmp 10) = _ from by simp only [Act.eval, Array.getD_eq_getD_getElem?]; exact b10) (pkCells kh root) _ (Cells.sub (hW.at_ 0 rfl) 0 (fun j u h => by rwa [Nat.zero_add])) Try.underlying62 rfl (by rw [pkLen HR16.out]; kernel_rfl) ?_
      exact hK _ _ (World.grownBy.refl _ _) rfl
     ·intro a W hW hb hd K hK
      have b47 : a.tmps[47]?.getD undef = _ := hd ⟨2, .data⟩ (by simp) rfl
      have hidc := ID_any W kh root HR16.out
      rw [HID.out] at hidc
      go_simp
      refine hidc.mono ?_
      rintro e w' ⟨rfl, hb'⟩
      exact hK _ _ (grown_of_below hb') rfl
     ·intro a W hW hb hd K hK
      have b46 : a.tmps[46]?.getD undef = _ := hd ⟨1, .data⟩ (by simp) rfl
      have b48 : a.tmps[48]?.getD undef = _ := hd ⟨3, .data⟩ (by simp) rfl
      have hse := searchK_any W B As ns cc l id (hW.at_ 9 rfl : Kss W B As ns l ∧ _).1 HSORT.out HI32.out hsl (hW.at_ 9 rfl : _ ∧ B ≤ W.heap.size).2
      rw [HPL.out, HHH.out] at hse
      go_simp
      refine hse.mono ?_
      rintro e w' ⟨rfl, hb'⟩
      exact hK _ _ (grown_of_below hb') rfl
     ·intro a W hW hb hd K hK
      have b49 : a.tmps[49]?.getD undef = _ := hd ⟨4, .data⟩ (by simp) rfl
      go_simp
      exact hK _ _ (World.grownBy.refl _ _) rfl
     ·intro a W hW hb hd K hK
      have b44 : a.tmps[44]?.getD undef = _ := hd ⟨5, .data⟩ (by simp) rfl
      go_simp
      exact hK _ _ (World.grownBy.refl _ _) rfl
     ·intro a W hW hb hd K hK
      have b44 : a.tmps[44]?.getD undef = _ := hd ⟨5, .data⟩ (by simp) rfl
      go_simp
      exact hK _ _ (World.grownBy.refl _ _) rfl
     ·intro a W hW hb hd K hK
      have b50 : a.tmps[50]?.getD undef = _ := hd ⟨6, .data⟩ (by simp) rfl
      go_simp
      exact hK _ _ (World.grownBy.refl _ _) rfl
    case fin2 =>
     intro vs V6 hV6 hv
     have e7 : vs 7 = _ := hv 7 (by decide)
     have e8 : vs 8 = _ := hv 8 (by decide)
     clear hv hV5
     simp only [putAll, List.drop_succ_cons, List.drop_zero, e7, e8, Act.put, List.setIfInBounds_toArray, List.set_cons_succ, List.set_cons_zero]
     clear e7 e8
     cases hh with
     | true =>
      have HS := Lib.hid (HA5.out (by rw [HRT.out, HID.out]; exact HHH.out))
      go_wp2_with (first
       | (refine wl_build rfl 25 [] rfl _ _ #[(0, 1), (1, 1), (2, 1)] envZ.toArray zero_env Try.underlying25 (fun w => by kernel_rfl) rfl ?_)
       | (refine wl_build rfl 43 [] rfl _ _ #[(0, 16), (16, 1), (17, 1)] siz.toArray zero_si Try.underlying43 (fun w => by kernel_rfl) rfl ?_)
       | (refine wl_store_at hV6 6 rfl 25 (.tmp 4) (.tmp 54) rfl (g + 1 + 1) _ _ envZ rfl rfl rfl rfl (by kernel_rfl) (envC_one _ _ _ _ _ _ _) (by simp [Apart, Res.apart, Low.kss, Low.rd] <;> omega) ?_; intro W8 hI8 hs8; simp only [List.set_cons_zero, List.set_cons_succ] at hI8)
       | (refine wl_store_at hI8 5 rfl 43 (.tmp 5) (.tmp 55) rfl (g + 1 + 1 + 1) _ _ siz rfl rfl rfl rfl (by kernel_rfl) siz_one (by simp [Apart, Res.apart, Low.kss, Low.rd] <;> omega) ?_; intro W9 hI9 hs9; simp only [List.set_cons_zero, List.set_cons_succ] at hI9))
      refine bodyPost_ret (v := .tuple #[.agg envZ.toArray, .agg siz.toArray, .int .i64 5]) ?_ rfl ⟨envZ, by rw [HS.out], by rw [HS.out]; exact EnvAt.zero, (hI9.at_ 11 rfl : _ ∧ _).1⟩
      exact results_row_row_tmp (p := 4) (p2 := 5) (q := 6) rfl _ _ (g + 1 + 1) 25 envZ.toArray (0, 0) _ rfl (hI9.at_ 6 rfl) Try.underlying25 rfl (by kernel_rfl) (g + 1 + 1 + 1) 43 siz.toArray (0, 0) _ rfl (hI9.at_ 5 rfl) Try.underlying43 rfl (by kernel_rfl)
     | false =>
      have q6 := (env_cells kind Ap np cp As ns cc (hV6.at_ 8 rfl)).2.2
      by_cases h8 : ns = 8
      ·have HS := Lib.hid (HA3.out (by rw [HRT.out, HID.out]; exact HHH.out) h8)
       have d8 : ((ns : Int) == 8) = true := by simp [h8]
       clear h8
       go_wp2_with (first
        | (refine wl_build rfl 25 [] rfl _ _ #[(0, 1), (1, 1), (2, 1)] envZ.toArray zero_env Try.underlying25 (fun w => by kernel_rfl) rfl ?_)
        | (refine wl_build rfl 43 [] rfl _ _ #[(0, 16), (16, 1), (17, 1)] siz.toArray zero_si Try.underlying43 (fun w => by kernel_rfl) rfl ?_)
        | (refine wl_store_at hV6 6 rfl 25 (.tmp 4) (.tmp 61) rfl (g + 1 + 1) _ _ envZ rfl rfl rfl rfl (by kernel_rfl) (envC_one _ _ _ _ _ _ _) (by simp [Apart, Res.apart, Low.kss, Low.rd] <;> omega) ?_; intro W8 hI8 hs8; simp only [List.set_cons_zero, List.set_cons_succ] at hI8)
        | (refine wl_store_at hI8 5 rfl 43 (.tmp 5) (.tmp 62) rfl (g + 1 + 1 + 1) _ _ siz rfl rfl rfl rfl (by kernel_rfl) siz_one (by simp [Apart, Res.apart, Low.kss, Low.rd] <;> omega) ?_; intro W9 hI9 hs9; simp only [List.set_cons_zero, List.set_cons_succ] at hI9))
       refine bodyPost_ret (v := .tuple #[.agg envZ.toArray, .agg siz.toArray, .int .i64 3]) ?_ rfl ⟨envZ, by rw [HS.out], by rw [HS.out]; exact EnvAt.zero, (hI9.at_ 11 rfl : _ ∧ _).1⟩
       exact results_row_row_tmp (p := 4) (p2 := 5) (q := 6) rfl _ _ (g + 1 + 1) 25 envZ.toArray (0, 0) _ rfl (hI9.at_ 6 rfl) Try.underlying25 rfl (by kernel_rfl) (g + 1 + 1 + 1) 43 siz.toArray (0, 0) _ rfl (hI9.at_ 5 rfl) Try.underlying43 rfl (by kernel_rfl)
      ·have HS := Lib.hid (HA0.out (by rw [HRT.out, HID.out]; exact HHH.out) h8)
       have d8 : ((ns : Int) == 8) = false := by simp; omega
       have hco := copied_any V6 B kind Ap np cp As ns cc pay l (hV6.at_ 9 rfl : Kss V6 B As ns l ∧ _).1 (hV6.at_ 10 rfl : Rd V6 B 1 Ap np _ ∧ _).1 hpl hsl HKB.out (hV6.at_ 9 rfl : _ ∧ B ≤ V6.heap.size).2
       have hgpV : gp < V6.heap.size := Cells.lt (hV6.at_ 0 rfl)
       have hoA := own_len (hV6.at_ 3 rfl : Go.Adm.Own V6 _ _ _ _ _ _ _)
       have hoB := own_len (hV6.at_ 4 rfl : Go.Adm.Own V6 _ _ _ _ _ _ _)
       obtain ⟨b6, hb6⟩ : ∃ b6, b6 = V6.heap.size := ⟨_, rfl⟩
       have hOA : ∀ q, (Value.slice Ac S.chain.length ccc).ownBlock = some q → q < b6 := fun q hq => by rw [hb6]; exact ((hV6.at_ 3 rfl : Go.Adm.Own V6 _ _ _ _ _ _ _).lt hq).2
       have hOB : ∀ q, (Value.slice Aq S.path.length cq).ownBlock = some q → q < b6 := fun q hq => by rw [hb6]; exact ((hV6.at_ 4 rfl : Go.Adm.Own V6 _ _ _ _ _ _ _).lt hq).2
       rw [← hb6] at hgpV hoA hoB
       clear h8
       go_upto_region 13 with (first
        | (refine wl_load_any rfl 25 (.tmp 2) rfl ⟨g, 0, none⟩ rfl (envC kind Ap np cp As ns cc) _ (Cells.sub (hV6.at_ 8 rfl) 0 (fun j u h => by rwa [Nat.zero_add])) Try.underlying25 rfl (by kernel_rfl) ?_)
        | (go_at_call 42; refine hco.mono ?_; clear hco; rintro e w7 ⟨Ap7, cp7, As7, cs7, l7, b7, rfl, hls7, hb71, hb72, hpb7, hD7⟩; have hV7 := hV6.call (hD7.at_ 2 rfl : _ ∧ _).1; have hV8 : All w7 (.ksn 64 b7 As7 ns cs7 l7 :: .own V6.heap.size 5 1 Ap7 np cp7 (pay.map bv) :: _) := ⟨hD7.at_ 0 rfl, hD7.at_ 1 rfl, hV7⟩)
        | (refine wl_store_at (hV8.new (l := envZ) (g := w7.heap.size) _ 25 rfl rfl) 0 rfl 25 (.tmp 14) (.tmp 64) rfl w7.heap.size _ _ (envC kind Ap7 np cp7 As7 ns cs7) rfl rfl rfl rfl (by kernel_rfl) (envC_one _ _ _ _ _ _ _) (hV8.fresh (Nat.le_refl _) rfl) ?_; intro V9 hV9 hs9; simp only [List.set_cons_zero] at hV9))
       obtain ⟨g14, hg14⟩ : ∃ g14, g14 = w7.heap.size := ⟨_, rfl⟩
       have hN7 : Nest w7 b7 64 20 As7 ns cs7 (l7.map ksC).flatten 0 (KsF l7) (KsI l7) := hV8.at_ 0 rfl
       have hrow7 : ∀ b, (Value.slice As7 ns cs7).ownBlock = some b → b7 ≤ b ∧ b < g14 := fun b hb => by rw [hg14]; exact hN7.own.lt hb
       have hF7 : ∀ b, KsF l7 b → b7 ≤ b ∧ b < g14 := fun b hb => by rw [hg14]; exact hN7.fr b hb
       have hl7 : l7.length = ns := by have := congrArg List.length hls7; rw [List.length_map, List.length_map] at this; rw [this]; exact HN.out
       simp only [← hg14] at hV9 ⊢
       rw [← hb6] at hV9 hb71
       have hb7g : b7 ≤ g14 := by rw [hg14]; exact hb72
       have HLS7 := Lib.hid hls7
       have HPB7 := Lib.hid hpb7
       obtain ⟨x, hx⟩ : ∃ x : Ks, x = ⟨(kh : Int), root, S.leaf, Ac, ccc, S.chain, Aq, cq, S.path⟩ := ⟨_, rfl⟩
       have hxs : x.s = ⟨kh, root, S.leaf, S.chain, S.path⟩ := by rw [hx]; rfl
       have hxF : ∀ b, KsF [x] b → g + 1 + 1 + 1 + 1 ≤ b ∧ b < b6 := by
        rintro b ⟨y, hy, hq⟩
        rw [List.mem_singleton] at hy
        subst hy
        rw [hx] at hq
        rcases hq with ⟨ad, e, rfl⟩ | ⟨ad, e, rfl⟩
        ·exact hoA ad e
        ·exact hoB ad e
       have hxr : x.r.length = 16 := by rw [hx]; exact HR16.out
       have HXO : Hid (∀ W, All W [.own (g + 1 + 1 + 1 + 1) 41 16 Ac S.chain.length ccc (hvs S.chain).flatten, .own (g + 1 + 1 + 1 + 1) 41 16 Aq S.path.length cq (hvs S.path).flatten] → KsOk W W.heap.size x) := Lib.hid (fun W hW => by
        rw [hx]
        exact ⟨HR16.out, Els.of (hW.at_ 0 rfl) (hvs_each HSO.out.chain) (hvs_len _), HSO.out.chain, (hW.at_ 0 rfl : Go.Adm.Own W _ _ _ _ _ _ _).cap, Els.of (hW.at_ 1 rfl) (hvs_each HSO.out.path) (hvs_len _), HSO.out.path, (hW.at_ 1 rfl : Go.Adm.Own W _ _ _ _ _ _ _).cap⟩)
       have HFP : Hid (Instr.fill (#[(0, 17), (17, 3)][·]?) ksZ.toArray [(0, .agg (pkCells kh root).toArray), (1, .agg (sgCells S.leaf Ac S.chain.length ccc Aq S.path.length cq).toArray)] = some (ksC x).toArray) := Lib.hid (by rw [hx]; exact fill_ks ⟨(kh : Int), root, S.leaf, Ac, ccc, S.chain, Aq, cq, S.path⟩ HR16.out)
       have HXS := Lib.hid hxs
       have HXR := Lib.hid hxr
       clear hx hxs hxr hoA hoB hN7 hV6 hV8 hV7 hD7 hls7 hpb7 hb72 hs9 hg14 hb6 q6 d8
       have hVA : All V9 [.ksn 64 (g + 1 + 1 + 1 + 1) As7 ns cs7 l7, .cells g14 25 (envC kind Ap7 np cp7 As7 ns cs7), .own b6 5 1 Ap7 np cp7 (pay.map bv), .cells gp 62 (pkCells kh root), .cells g7 43 (siCells s' h' n'), .cells g8 60 (sgCells S.leaf Ac S.chain.length ccc Aq S.path.length cq), .own (g + 1 + 1 + 1 + 1) 41 16 Ac S.chain.length ccc (hvs S.chain).flatten, .own (g + 1 + 1 + 1 + 1) 41 16 Aq S.path.length cq (hvs S.path).flatten, .cells (g + 1 + 1 + 1) 43 siz, .cells (g + 1 + 1) 25 envZ, .cells (g + 1) 43 (siCells seed kh n), .cells g 25 (envC kind Ap np cp As ns cc), .low (.kss B As ns l), .low (.rd B 1 Ap np (pay.map bv)), .kept w w.heap.size] := ⟨ksn_less (hV9.at_ 1 rfl) (by omega), hV9.at_ 0 rfl, hV9.at_ 2 rfl, hV9.2.2.2⟩
       clear hV9
       have q9 := (env_cells kind Ap7 np cp7 As7 ns cs7 (hVA.at_ 1 rfl)).2.2
       have hg14V : g14 < V9.heap.size := Cells.lt (hVA.at_ 1 rfl)
       have hzk := zero_ks
       obtain ⟨g2, hg2⟩ : ∃ g2, g2 = V9.heap.size := ⟨_, rfl⟩
       rw [← hg2] at hg14V
       have HG2 := Lib.hid hg2
       clear hg2
       have HIN : Hid (∀ W, All W (.ksn 64 (g + 1 + 1 + 1 + 1) As7 ns cs7 l7 :: .cells g2 64 (ksC x) :: [.cells g14 25 (envC kind Ap7 np cp7 As7 ns cs7), .own b6 5 1 Ap7 np cp7 (pay.map bv), .cells gp 62 (pkCells kh root), .cells g7 43 (siCells s' h' n'), .cells g8 60 (sgCells S.leaf Ac S.chain.length ccc Aq S.path.length cq), .own (g + 1 + 1 + 1 + 1) 41 16 Ac S.chain.length ccc (hvs S.chain).flatten, .own (g + 1 + 1 + 1 + 1) 41 16 Aq S.path.length cq (hvs S.path).flatten, .cells (g + 1 + 1 + 1) 43 siz, .cells (g + 1 + 1) 25 envZ, .cells (g + 1) 43 (siCells seed kh n), .cells g 25 (envC kind Ap np cp As ns cc), .low (.kss B As ns l), .low (.rd B 1 Ap np (pay.map bv)), .kept w w.heap.size]) → Calls Try.prog 43 #[.slice As7 ns cs7, .int .i64 pl, .slice (some ⟨g2, 0, none⟩) 1 1] W fun e w' => ∃ A' c', e = .returned (.slice A' (ns + 1) c') ∧ All w' (.ksn 64 (g + 1 + 1 + 1 + 1) A' (ns + 1) c' (l7.take pl ++ x :: l7.drop pl) :: .cells g2 64 (ksC x) :: [.cells g14 25 (envC kind Ap7 np cp7 As7 ns cs7), .own b6 5 1 Ap7 np cp7 (pay.map bv), .cells gp 62 (pkCells kh root), .cells g7 43 (siCells s' h' n'), .cells g8 60 (sgCells S.leaf Ac S.chain.length ccc Aq S.path.length cq), .own (g + 1 + 1 + 1 + 1) 41 16 Ac S.chain.length ccc (hvs S.chain).flatten, .own (g + 1 + 1 + 1 + 1) 41 16 Aq S.path.length cq (hvs S.path).flatten, .cells (g + 1 + 1 + 1) 43 siz, .cells (g + 1 + 1) 25 envZ, .cells (g + 1) 43 (siCells seed kh n), .cells g 25 (envC kind Ap np cp As ns cc), .low (.kss B As ns l), .low (.rd B 1 Ap np (pay.map bv)), .kept w w.heap.size]) ∧
         ∀ b, (Value.slice A' (ns + 1) c').ownBlock = some b → b < g14 ∨ g2 < b) := Lib.hid (fun W hW => by
        have hgW : g2 < W.heap.size := Cells.lt (hW.at_ 1 rfl)
        refine (InsertK_any W [.cells g14 25 (envC kind Ap7 np cp7 As7 ns cs7), .own b6 5 1 Ap7 np cp7 (pay.map bv), .cells gp 62 (pkCells kh root), .cells g7 43 (siCells s' h' n'), .cells g8 60 (sgCells S.leaf Ac S.chain.length ccc Aq S.path.length cq), .own (g + 1 + 1 + 1 + 1) 41 16 Ac S.chain.length ccc (hvs S.chain).flatten, .own (g + 1 + 1 + 1 + 1) 41 16 Aq S.path.length cq (hvs S.path).flatten, .cells (g + 1 + 1 + 1) 43 siz, .cells (g + 1 + 1) 25 envZ, .cells (g + 1) 43 (siCells seed kh n), .cells g 25 (envC kind Ap np cp As ns cc), .low (.kss B As ns l), .low (.rd B 1 Ap np (pay.map bv)), .kept w w.heap.size] (g + 1 + 1 + 1 + 1) As7 ns cs7 pl g2 l7 x hW rfl hl7 (HXO.out W ⟨hW.at_ 7 rfl, hW.at_ 8 rfl, trivial⟩) (fun b hb => ⟨(hxF b hb).1, by have := (hxF b hb).2; omega, by have := (hxF b hb).2; omega, fun e => by have := (hrow7 b e).1; have := (hxF b hb).2; omega⟩) (fun e => by have := (hrow7 _ e).2; omega) (fun q hq => by
         have h1 := hrow7 q hq
         exact ⟨by simp [Res.apart]; omega, own_apart HPB7.out h1.1, by simp [Res.apart]; omega, by simp [Res.apart]; omega, by simp [Res.apart]; omega, own_apart hOA (by omega), own_apart hOB (by omega), by simp [Res.apart]; omega, by simp [Res.apart]; omega, by simp [Res.apart]; omega, by simp [Res.apart]; omega, by simp [Res.apart, Low.kss]; omega, by simp [Res.apart, Low.rd]; omega, by simp [Res.apart]; omega, trivial⟩) hple hsl (by omega)).mono ?_
        rintro e w' ⟨A', c', rfl, h1, h2⟩
        refine ⟨A', c', rfl, h1, fun b hb => ?_⟩
        rcases h2 b hb with h3 | h3
        ·exact .inl (hrow7 b h3).2
        ·exact .inr (by omega))
       go_upto_region 14 with (first
        | (refine wl_load_any rfl 62 (.tmp 10) rfl ⟨gp, 0, none⟩ rfl (pkCells kh root) _ (Cells.sub (hVA.at_ 3 rfl) 0 (fun j u h => by rwa [Nat.zero_add])) Try.underlying62 rfl (by rw [pkLen HR16.out]; kernel_rfl) ?_)
        | (refine wl_load_any rfl 60 (.tmp 8) rfl ⟨g8, 0, none⟩ rfl (sgCells S.leaf Ac S.chain.length ccc Aq S.path.length cq) _ (Cells.sub (hVA.at_ 5 rfl) 0 (fun j u h => by rwa [Nat.zero_add])) Try.underlying60 rfl (by kernel_rfl) ?_)
        | (refine wl_build rfl 64 [(0, .tmp 68), (1, .tmp 69)] rfl _ _ #[(0, 17), (17, 3)] (ksC x).toArray zero_ks Try.underlying64 (fun w => by kernel_rfl) HFP.out ?_)
        | (refine wl_lit1 el_ks rfl (.tmp 70) rfl (ksC x) rfl (ksC_len HXR.out) (by decide) ?_; rw [← HG2.out]; refine wl_gen (hVA.new (l := ksC x) (g := g2) _ 64 HG2.out rfl) ?_; intro V10 hV10; have hin := HIN.out V10 ⟨hV10.at_ 1 rfl, hV10.at_ 0 rfl, hV10.2.2⟩)
        | (go_at_call 43; refine hin.mono ?_; clear hin; rintro e w11 ⟨A9, c9, rfl, hV11, hob9⟩; have q11 := (env_cells kind Ap7 np cp7 As7 ns cs7 (hV11.at_ 2 rfl)).2.2; have z11 := Cells.frozen (hV11.at_ 2 rfl) 2))
       refine wp_gen (hV11.store 2 rfl 2 (.slice A9 (ns + 1) c9) ⟨fun q hq => (by
        injection hq with hq
        subst hq
        refine ⟨Nat.zero_le _, .inr ⟨fun e => ?_, fun hF => ?_⟩⟩
        ·rcases hob9 _ e with h | h <;> omega
        ·rcases KsF.ins.1 hF with h | h
         ·have := (hF7 _ h).2; omega
         ·have := (hxF _ h).2; omega), by simp [Res.apart] <;> omega, own_apart HPB7.out hb7g, by simp [Res.apart] <;> omega, by simp [Res.apart] <;> omega, by simp [Res.apart] <;> omega, own_apart hOA (by omega), own_apart hOB (by omega), by simp [Res.apart] <;> omega, by simp [Res.apart] <;> omega, by simp [Res.apart] <;> omega, by simp [Res.apart] <;> omega, by simp [Res.apart, Low.kss] <;> omega, by simp [Res.apart, Low.rd] <;> omega, by simp [Res.apart] <;> omega, trivial⟩) ?_
       rw [env_set2]
       intro W12 hW12
       simp only [List.set_cons_zero, List.set_cons_succ] at hW12
       have HFIN : Hid (∀ W, All W [.ksn 64 (g + 1 + 1 + 1 + 1) A9 (ns + 1) c9 (l7.take pl ++ x :: l7.drop pl), .cells g2 64 (ksC x), .cells g14 25 (envC kind Ap7 np cp7 A9 (ns + 1) c9), .own b6 5 1 Ap7 np cp7 (pay.map bv), .cells gp 62 (pkCells kh root), .cells g7 43 (siCells s' h' n'), .cells g8 60 (sgCells S.leaf Ac S.chain.length ccc Aq S.path.length cq), .own (g + 1 + 1 + 1 + 1) 41 16 Ac S.chain.length ccc (hvs S.chain).flatten, .own (g + 1 + 1 + 1 + 1) 41 16 Aq S.path.length cq (hvs S.path).flatten, .cells (g + 1 + 1 + 1) 43 (siCells s' h' n'), .cells (g + 1 + 1) 25 (envC kind Ap7 np cp7 A9 (ns + 1) c9), .cells (g + 1) 43 (siCells seed kh n), .cells g 25 (envC kind Ap np cp As ns cc), .low (.kss B As ns l), .low (.rd B 1 Ap np (pay.map bv)), .kept w w.heap.size] → SignPostE (signE ⟨kind, pay, l.map Ks.s⟩ seed kh n) w (.returned (.tuple #[.agg (envC kind Ap7 np cp7 A9 (ns + 1) c9).toArray, .agg (siCells s' h' n').toArray, .int .i64 0])) W) := Lib.hid (fun W hW => by
        have hn1 : (l7.take pl ++ x :: l7.drop pl).length = ns + 1 := by
         rw [List.length_append, List.length_cons, List.length_take, List.length_drop, hl7]; omega
        have hN : Nest W (g + 1 + 1 + 1 + 1) 64 20 A9 (ns + 1) c9 ((l7.take pl ++ x :: l7.drop pl).map ksC).flatten 0 (KsF (l7.take pl ++ x :: l7.drop pl)) (KsI (l7.take pl ++ x :: l7.drop pl)) := hW.at_ 0 rfl
        have hP : Go.Adm.Own W b6 5 1 Ap7 np cp7 (pay.map bv) := hW.at_ 3 rfl
        rw [HS.out]
        refine ⟨envC kind Ap7 np cp7 A9 (ns + 1) c9, by rw [HSI.out], ⟨Ap7, np, cp7, A9, ns + 1, c9, l7.take pl ++ x :: l7.drop pl, rfl, HPN.out, hP.rd, ?_, ksn_kss (hW.at_ 0 rfl) hn1, hP.cap.1, hP.cap.2, hN.own.cap.1, hN.own.cap.2⟩, (hW.at_ 15 rfl : _ ∧ _).1⟩
        have hplc : placeG (l.map Ks.s) (idG ⟨(kh : Int), root, S.leaf, S.chain, S.path⟩) = pl := by
         show placeG (l.map Ks.s) (idS kh root) = pl
         rw [HID.out]; exact HPL.out
        show putG (l.map Ks.s) ⟨(kh : Int), rootS seed kh, S.leaf, S.chain, S.path⟩ = _
        rw [HRT.out, List.map_append, List.map_cons, List.map_take, List.map_drop, HLS7.out, HXS.out]
        unfold putG
        rw [hplc])
       have hX0 := hW12.drew
       clear hW12 hV11 hob9 hF7 hxF hrow7 q11 z11
       refine wp_region_any (by kernel_rfl) ?_
       change wpAny _ _ _ _ _ _ _ (World.drew _)
       refine wpAny_ready (rs := [0, 1]) (by kernel_rfl) (by simp) ?_
       refine AllReady.cons rfl (fun K hK => ?_) ?_
       ·rw [if_pos (by simp [Region.wanted])]
        refine wp_load_mid 25 (.tmp 14) rfl g14 0 rfl (envC kind Ap7 np cp7 A9 (ns + 1) c9) _ (Cells.range (hX0.at_ 2 rfl)) Try.underlying25 rfl (by kernel_rfl) ?_
        refine hK _ _ ?_
        clear hK K
        refine wpAny_ready (rs := [1, 2]) (by kernel_rfl) (by simp) ?_
        refine AllReady.cons rfl (fun K hK => ?_) ?_
        ·rw [if_pos (by simp [Region.wanted])]
         refine wp_load_mid 43 (.tmp 7) rfl g7 0 rfl (siCells s' h' n') _ (Cells.range (hX0.at_ 5 rfl)) Try.underlying43 rfl (by rw [si_len _ _ _ HS16.out]; kernel_rfl) ?_
         refine hK _ _ ?_
         clear hK K
         refine wpAny_ready (rs := [2]) (by kernel_rfl) (by simp) ?_
         refine AllReady.cons rfl (fun K hK => ?_) ?_
         ·rw [if_pos (by simp [Region.wanted])]
          refine wp_store_at hX0 10 25 (.tmp 4) (.tmp 74) rfl (g + 1 + 1) _ _ (envC kind Ap7 np cp7 A9 (ns + 1) c9) rfl rfl rfl (rfl) (by kernel_rfl) (envC_one _ _ _ _ _ _ _) (⟨ksn_below (by omega), by simp [Res.apart] <;> omega, by simp [Res.apart] <;> omega, own_below (by omega), by simp [Res.apart] <;> omega, by simp [Res.apart] <;> omega, by simp [Res.apart] <;> omega, own_below (by omega), own_below (by omega), by simp [Res.apart] <;> omega, by simp [Res.apart] <;> omega, by simp [Res.apart] <;> omega, by simp [Res.apart, Low.kss] <;> omega, by simp [Res.apart, Low.rd] <;> omega, by simp [Res.apart] <;> omega, trivial⟩) ?_
          intro w11 h11 z11
          simp only [List.set_cons_zero, List.set_cons_succ] at h11
          refine hK _ _ ?_
          clear hK K
          refine wpAny_ready (rs := [3]) (by kernel_rfl) (by simp) ?_
          refine AllReady.cons rfl (fun K hK => ?_) ?_
          ·rw [if_pos (by simp [Region.wanted])]
           refine wp_store_at h11 9 43 (.tmp 5) (.tmp 75) rfl (g + 1 + 1 + 1) _ _ (siCells s' h' n') rfl rfl rfl (by rw [si_len _ _ _ HS16.out]; rfl) (by rw [si_len _ _ _ HS16.out]; kernel_rfl) (si_one _ _ _) (⟨ksn_below (by omega), by simp [Res.apart] <;> omega, by simp [Res.apart] <;> omega, own_below (by omega), by simp [Res.apart] <;> omega, by simp [Res.apart] <;> omega, by simp [Res.apart] <;> omega, own_below (by omega), own_below (by omega), by simp [Res.apart] <;> omega, by simp [Res.apart] <;> omega, by simp [Res.apart] <;> omega, by simp [Res.apart, Low.kss] <;> omega, by simp [Res.apart, Low.rd] <;> omega, by simp [Res.apart] <;> omega, trivial⟩) ?_
           intro w21 h21 z21
           simp only [List.set_cons_zero, List.set_cons_succ] at h21
           refine hK _ _ ?_
           clear hK K
           refine wpAny_ready (rs := [4]) (by kernel_rfl) (by simp) ?_
           refine AllReady.cons rfl (fun K hK => ?_) ?_
           ·rw [if_pos (by simp [Region.wanted])]
            go_simp
            refine hK _ _ ?_
            clear hK K
            refine wpAny_done (by kernel_rfl) ?_ _
            go_wp2_with fail
            refine bodyPost_ret (v := .tuple #[.agg (envC kind Ap7 np cp7 A9 (ns + 1) c9).toArray, .agg (siCells s' h' n').toArray, .int .i64 0]) ?_ rfl (HFIN.out _ h21)
            exact results_row_row_tmp (p := 4) (p2 := 5) (q := 6) rfl _ _ (g + 1 + 1) 25 (envC kind Ap7 np cp7 A9 (ns + 1) c9).toArray (0, 0) _ rfl (h21.at_ 10 rfl) Try.underlying25 rfl (by kernel_rfl) (g + 1 + 1 + 1) 43 (siCells s' h' n').toArray (0, 0) _ rfl (h21.at_ 9 rfl) Try.underlying43 rfl (by rw [List.size_toArray, si_len _ _ _ HS16.out]; kernel_rfl)
           exact AllReady.nil
          exact AllReady.nil
         exact AllReady.nil
        refine AllReady.cons rfl (fun K hK => ?_) ?_
        ·rw [if_pos (by simp [Region.wanted])]
         refine wp_store_at hX0 10 25 (.tmp 4) (.tmp 74) rfl (g + 1 + 1) _ _ (envC kind Ap7 np cp7 A9 (ns + 1) c9) rfl rfl rfl (rfl) (by kernel_rfl) (envC_one _ _ _ _ _ _ _) (⟨ksn_below (by omega), by simp [Res.apart] <;> omega, by simp [Res.apart] <;> omega, own_below (by omega), by simp [Res.apart] <;> omega, by simp [Res.apart] <;> omega, by simp [Res.apart] <;> omega, own_below (by omega), own_below (by omega), by simp [Res.apart] <;> omega, by simp [Res.apart] <;> omega, by simp [Res.apart] <;> omega, by simp [Res.apart, Low.kss] <;> omega, by simp [Res.apart, Low.rd] <;> omega, by simp [Res.apart] <;> omega, trivial⟩) ?_
         intro w31 h31 z31
         simp only [List.set_cons_zero, List.set_cons_succ] at h31
         refine hK _ _ ?_
         clear hK K
         refine wpAny_ready (rs := [1]) (by kernel_rfl) (by simp) ?_
         refine AllReady.cons rfl (fun K hK => ?_) ?_
         ·rw [if_pos (by simp [Region.wanted])]
          refine wp_load_mid 43 (.tmp 7) rfl g7 0 rfl (siCells s' h' n') _ (Cells.range (h31.at_ 5 rfl)) Try.underlying43 rfl (by rw [si_len _ _ _ HS16.out]; kernel_rfl) ?_
          refine hK _ _ ?_
          clear hK K
          refine wpAny_ready (rs := [3]) (by kernel_rfl) (by simp) ?_
          refine AllReady.cons rfl (fun K hK => ?_) ?_
          ·rw [if_pos (by simp [Region.wanted])]
           refine wp_store_at h31 9 43 (.tmp 5) (.tmp 75) rfl (g + 1 + 1 + 1) _ _ (siCells s' h' n') rfl rfl rfl (by rw [si_len _ _ _ HS16.out]; rfl) (by rw [si_len _ _ _ HS16.out]; kernel_rfl) (si_one _ _ _) (⟨ksn_below (by omega), by simp [Res.apart] <;> omega, by simp [Res.apart] <;> omega, own_below (by omega), by simp [Res.apart] <;> omega, by simp [Res.apart] <;> omega, by simp [Res.apart] <;> omega, own_below (by omega), own_below (by omega), by simp [Res.apart] <;> omega, by simp [Res.apart] <;> omega, by simp [Res.apart] <;> omega, by simp [Res.apart, Low.kss] <;> omega, by simp [Res.apart, Low.rd] <;> omega, by simp [Res.apart] <;> omega, trivial⟩) ?_
           intro w41 h41 z41
           simp only [List.set_cons_zero, List.set_cons_succ] at h41
           refine hK _ _ ?_
           clear hK K
           refine wpAny_ready (rs := [4]) (by kernel_rfl) (by simp) ?_
           refine AllReady.cons rfl (fun K hK => ?_) ?_
           ·rw [if_pos (by simp [Region.wanted])]
            go_simp
            refine hK _ _ ?_
            clear hK K
            refine wpAny_done (by kernel_rfl) ?_ _
            go_wp2_with fail
            refine bodyPost_ret (v := .tuple #[.agg (envC kind Ap7 np cp7 A9 (ns + 1) c9).toArray, .agg (siCells s' h' n').toArray, .int .i64 0]) ?_ rfl (HFIN.out _ h41)
            exact results_row_row_tmp (p := 4) (p2 := 5) (q := 6) rfl _ _ (g + 1 + 1) 25 (envC kind Ap7 np cp7 A9 (ns + 1) c9).toArray (0, 0) _ rfl (h41.at_ 10 rfl) Try.underlying25 rfl (by kernel_rfl) (g + 1 + 1 + 1) 43 (siCells s' h' n').toArray (0, 0) _ rfl (h41.at_ 9 rfl) Try.underlying43 rfl (by rw [List.size_toArray, si_len _ _ _ HS16.out]; kernel_rfl)
           exact AllReady.nil
          exact AllReady.nil
         exact AllReady.nil
        exact AllReady.nil
       refine AllReady.cons rfl (fun K hK => ?_) ?_
       ·rw [if_pos (by simp [Region.wanted])]
        refine wp_load_mid 43 (.tmp 7) rfl g7 0 rfl (siCells s' h' n') _ (Cells.range (hX0.at_ 5 rfl)) Try.underlying43 rfl (by rw [si_len _ _ _ HS16.out]; kernel_rfl) ?_
        refine hK _ _ ?_
        clear hK K
        refine wpAny_ready (rs := [0]) (by kernel_rfl) (by simp) ?_
        refine AllReady.cons rfl (fun K hK => ?_) ?_
        ·rw [if_pos (by simp [Region.wanted])]
         refine wp_load_mid 25 (.tmp 14) rfl g14 0 rfl (envC kind Ap7 np cp7 A9 (ns + 1) c9) _ (Cells.range (hX0.at_ 2 rfl)) Try.underlying25 rfl (by kernel_rfl) ?_
         refine hK _ _ ?_
         clear hK K
         refine wpAny_ready (rs := [2]) (by kernel_rfl) (by simp) ?_
         refine AllReady.cons rfl (fun K hK => ?_) ?_
         ·rw [if_pos (by simp [Region.wanted])]
          refine wp_store_at hX0 10 25 (.tmp 4) (.tmp 74) rfl (g + 1 + 1) _ _ (envC kind Ap7 np cp7 A9 (ns + 1) c9) rfl rfl rfl (rfl) (by kernel_rfl) (envC_one _ _ _ _ _ _ _) (⟨ksn_below (by omega), by simp [Res.apart] <;> omega, by simp [Res.apart] <;> omega, own_below (by omega), by simp [Res.apart] <;> omega, by simp [Res.apart] <;> omega, by simp [Res.apart] <;> omega, own_below (by omega), own_below (by omega), by simp [Res.apart] <;> omega, by simp [Res.apart] <;> omega, by simp [Res.apart] <;> omega, by simp [Res.apart, Low.kss] <;> omega, by simp [Res.apart, Low.rd] <;> omega, by simp [Res.apart] <;> omega, trivial⟩) ?_
          intro w51 h51 z51
          simp only [List.set_cons_zero, List.set_cons_succ] at h51
          refine hK _ _ ?_
          clear hK K
          refine wpAny_ready (rs := [3]) (by kernel_rfl) (by simp) ?_
          refine AllReady.cons rfl (fun K hK => ?_) ?_
          ·rw [if_pos (by simp [Region.wanted])]
           refine wp_store_at h51 9 43 (.tmp 5) (.tmp 75) rfl (g + 1 + 1 + 1) _ _ (siCells s' h' n') rfl rfl rfl (by rw [si_len _ _ _ HS16.out]; rfl) (by rw [si_len _ _ _ HS16.out]; kernel_rfl) (si_one _ _ _) (⟨ksn_below (by omega), by simp [Res.apart] <;> omega, by simp [Res.apart] <;> omega, own_below (by omega), by simp [Res.apart] <;> omega, by simp [Res.apart] <;> omega, by simp [Res.apart] <;> omega, own_below (by omega), own_below (by omega), by simp [Res.apart] <;> omega, by simp [Res.apart] <;> omega, by simp [Res.apart] <;> omega, by simp [Res.apart, Low.kss] <;> omega, by simp [Res.apart, Low.rd] <;> omega, by simp [Res.apart] <;> omega, trivial⟩) ?_
           intro w61 h61 z61
           simp only [List.set_cons_zero, List.set_cons_succ] at h61
           refine hK _ _ ?_
           clear hK K
           refine wpAny_ready (rs := [4]) (by kernel_rfl) (by simp) ?_
           refine AllReady.cons rfl (fun K hK => ?_) ?_
           ·rw [if_pos (by simp [Region.wanted])]
            go_simp
            refine hK _ _ ?_
            clear hK K
            refine wpAny_done (by kernel_rfl) ?_ _
            go_wp2_with fail
            refine bodyPost_ret (v := .tuple #[.agg (envC kind Ap7 np cp7 A9 (ns + 1) c9).toArray, .agg (siCells s' h' n').toArray, .int .i64 0]) ?_ rfl (HFIN.out _ h61)
            exact results_row_row_tmp (p := 4) (p2 := 5) (q := 6) rfl _ _ (g + 1 + 1) 25 (envC kind Ap7 np cp7 A9 (ns + 1) c9).toArray (0, 0) _ rfl (h61.at_ 10 rfl) Try.underlying25 rfl (by kernel_rfl) (g + 1 + 1 + 1) 43 (siCells s' h' n').toArray (0, 0) _ rfl (h61.at_ 9 rfl) Try.underlying43 rfl (by rw [List.size_toArray, si_len _ _ _ HS16.out]; kernel_rfl)
           exact AllReady.nil
          exact AllReady.nil
         exact AllReady.nil
        exact AllReady.nil
       exact AllReady.nil
end Go.Proofs.Ytfakjamocpamiaa

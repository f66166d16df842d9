/- The checker of an envelope; who has signed it. -/
import Derived.Test.YtfakjamocpamiaaEnvG
set_option linter.unusedSimpArgs false
set_option linter.unusedVariables false
set_option maxRecDepth 100000
namespace Go.Adm
open Go Go.RowKit Go.Proofs.Ytfakjamocpamiaa
def verV (gn gm : Nat) : Value := .func (.func 55) #[] #[.pointer (some ⟨gn, 0, none⟩), .pointer (some ⟨gm, 0, none⟩)]
def askV (gn : Nat) : Value := .func (.func 57) #[] #[.pointer (some ⟨gn, 0, none⟩)]
theorem own_digsE {w : World} {base n c : Nat} {t : TypeId} {A : Option Addr} {ds : List (List UInt8)} (h : Go.Adm.Own w base t 32 A n c (dvs ds).flatten) (h32 : ∀ d ∈ ds, d.length = 32) (hl : ds.length = n) : Digs w w.heap.size A n ds := by
 refine ⟨Els.of h (fun e he => ?_) (by rw [dvs_len]; exact hl), h32, hl⟩
 obtain ⟨x, hx, rfl⟩ := List.mem_map.1 he
 rw [List.length_map]; exact h32 x hx
def cntOf (w : World) (g : Nat) : Nat := match w.cell? ⟨g, 0, none⟩ with
 | some (.int _ i) => i.toNat
 | _ => 0
theorem cntOf_eq {w : World} {g k : Nat} {t : TypeId} (h : Cells w g t [.int .i64 k]) : cntOf w g = k := by
 unfold cntOf
 rw [cellOf h (i := 0) rfl]
 exact Int.toNat_natCast k
/-- the keys, among the first k, whose signatures verify -/
noncomputable def upK (m : List UInt8) (l : List Ks) (k : Nat) : List (List UInt8) := ((l.take k).filter (fun x => verG m x.s)).map idK
theorem upK_yes {m : List UInt8} {l : List Ks} {k : Nat} (hk : k < l.length) (h : verG m l[k].s = true) : upK m l (k + 1) = upK m l k ++ [idK l[k]] := by
 unfold upK
 rw [List.take_succ_eq_append_getElem hk, List.filter_append, List.map_append]
 simp [h]
theorem upK_no {m : List UInt8} {l : List Ks} {k : Nat} (hk : k < l.length) (h : verG m l[k].s = false) : upK m l (k + 1) = upK m l k := by
 unfold upK
 rw [List.take_succ_eq_append_getElem hk, List.filter_append, List.map_append]
 simp [h]
theorem upK_32 {m : List UInt8} {l : List Ks} {k : Nat} : ∀ d ∈ upK m l k, d.length = 32 := fun d hd => by
 obtain ⟨x, _, rfl⟩ := List.mem_map.1 hd
 exact idK_len x
theorem upK_len (m : List UInt8) (l : List Ks) (k : Nat) : (upK m l k).length ≤ k := by
 unfold upK
 rw [List.length_map]
 exact Nat.le_trans (List.length_filter_le _ _) (List.length_take_le _ _)
theorem upK_all {kind : ByteArray} {p : List UInt8} {l : List Ks} (h : validR ⟨kind, p, l.map Ks.s⟩ = true) : signersE ⟨kind, p, l.map Ks.s⟩ = upK (msgS kind p) l l.length := by
 unfold signersE upK
 rw [if_pos h, List.take_length]
 dsimp only
 rw [List.filter_map, List.map_map]
 rfl
theorem signersE_bad {R : EnvR} (h : validR R = false) : signersE R = [] := by
 unfold signersE
 rw [if_neg (by rw [h]; decide)]
theorem own_ne_own_cells {w : World} {base size n c g : Nat} {e t : TypeId} {A : Option Addr} {xs cs : List Value} (h : Own w base e size A n c xs) (hc : Cells w g t cs) (hne : t ≠ e) : (Value.slice A n c).ownBlock ≠ some g := Own.ne_cells h hc hne
/-- what Signers gives -/
def SgsPost (R : EnvR) (w : World) (e : Ending) (w' : World) : Prop :=
 ∃ A n c, e = .returned (.slice A n c) ∧ Digs w' w'.heap.size A n (signersE R) ∧ n ≤ c ∧ c ≤ maxLen ∧ Below w.heap.size w w'
end Go.Adm
namespace Go.Proofs.Ytfakjamocpamiaa
open Go Go.RowKit Go.Adm
set_option maxHeartbeats 3200000 in
theorem checker_any (w : World) (B : Nat) (kind : ByteArray) (Ap : Option Addr) (np cp : Nat) (As : Option Addr) (ns cc : Nat) (p : List UInt8) (hp : Rd w B 1 Ap np (p.map bv)) (hk : kind.size ≤ 140737488355328) (hnp : np ≤ 140737488355328) (hB : B ≤ w.heap.size) :
  Calls Try.prog 33 #[.agg (envC kind Ap np cp As ns cc).toArray] w fun e w' => ∃ gn gm, e = .returned (.tuple #[.func (.func 55) #[] #[.pointer (some ⟨gn, 0, none⟩), .pointer (some ⟨gm, 0, none⟩)], .func (.func 57) #[] #[.pointer (some ⟨gn, 0, none⟩)]]) ∧ w.heap.size ≤ gn ∧ w.heap.size ≤ gm ∧ gm < gn ∧ Cells w' gm 37 ((msgS kind p).map bv) ∧ Cells w' gn 3 [.int .i64 (0 : Nat)] ∧ Below w.heap.size w w' := by
 have hR : All w [.low (.rd B 1 Ap np (p.map bv)), .kept w w.heap.size] := ⟨⟨hp, hB⟩, ⟨Below.refl _ _, Nat.le_refl _⟩, trivial⟩
 clear hp
 have hzd := zero_dg
 go_enter Try.func33, Try.ntmps33
 go_upto_region 1 with (fail)
 obtain ⟨g, hg⟩ : ∃ g, g = w.heap.size := ⟨_, rfl⟩
 have hBg : B ≤ g := by omega
 have hgw : w.heap.size ≤ g := by omega
 refine wp_gen (hR.new (l := envC kind Ap np cp As ns cc) (g := g) _ 25 hg rfl) ?_
 intro W1 hW1
 simp only [← hg]
 clear hR hg
 obtain ⟨q0, q1, -⟩ := env_cells kind Ap np cp As ns cc (hW1.at_ 0 rfl)
 have hgW : g < W1.heap.size := Cells.lt (hW1.at_ 0 rfl)
 obtain ⟨m, hm⟩ : ∃ m, msgS kind p = m := ⟨_, rfl⟩
 have hme := Message_any W1 B kind Ap np cp p (hW1.at_ 1 rfl : Rd W1 B 1 Ap np _ ∧ _).1 hk hnp (hW1.at_ 1 rfl : _ ∧ B ≤ W1.heap.size).2
 rw [hm] at hme
 have HML : Hid (m.length = 32) := Lib.hid (by rw [← hm]; exact msgS_len _ _)
 have HM := Lib.hid hm
 clear hm
 go_upto_region 2 with (first
  | (go_at_call 17; refine hme.mono ?_; clear hme; rintro e w2 ⟨rfl, hb2⟩; have hW2 := hW1.call hb2; have hs2 := hb2.size)
  | (refine wl_store_at ((hW2.new (l := z32.map bv) (g := w2.heap.size) _ 37 rfl rfl).new (l := [.int .i64 0]) (g := w2.heap.size + 1) _ 3 (by simp) rfl) 1 rfl 37 (.tmp 4) (.tmp 10) rfl w2.heap.size _ _ (m.map bv) rfl rfl rfl (by rw [List.length_map, HML.out]; rfl) (by rw [List.length_map, HML.out]; kernel_rfl) (bv_one _) (by simp [Apart, Res.apart, Low.rd] <;> omega) ?_; intro W3 hW3 hs3; simp only [List.set_cons_zero, List.set_cons_succ] at hW3; have q3 := cellOf (hW3.at_ 0 rfl) (i := 0) rfl; have z3 := Cells.frozen (hW3.at_ 0 rfl) 0))
 refine wp_gen (hW3.store 0 rfl 0 (.int .i64 0) (by simp [Apart, Res.apart, Low.rd] <;> omega)) ?_
 intro W4 hW4
 clear q3 z3 hW3 hs3 q0 q1
 go_wp2_with fail
 go_ret2
 refine ⟨w2.heap.size + 1, w2.heap.size, rfl, by omega, by omega, by omega, ?_, hW4.at_ 0 rfl, (hW4.at_ 4 rfl : _ ∧ _).1⟩
 rw [HM.out]
 exact hW4.at_ 1 rfl

set_option maxHeartbeats 1600000 in
theorem asked_any (w : World) (gn k : Nat) (hn : Cells w gn 3 [.int .i64 k]) :
  Calls Try.prog 57 #[.pointer (some ⟨gn, 0, none⟩)] w fun e w' => e = .returned (.int .i64 k) ∧ w' = w := by
 have q0 := cellOf hn (i := 0) rfl
 clear hn
 go_enter Try.func57, Try.ntmps57
 go_wp2_with fail
 go_ret
 exact ⟨rfl, rfl⟩

set_option maxHeartbeats 3200000 in
theorem verify_any (w : World) (B gn gm k : Nat) (x : Ks) (m : List UInt8) (rs : List Res) (hx : KsOk w B x) (hB : B ≤ w.heap.size) (hm : m.length = 32) (hk : k ≤ 1000000) (hR : All w (.cells gn 3 [.int .i64 k] :: .cells gm 37 (m.map bv) :: rs)) (hz : rs.all Res.z = true) (hne : gn ≠ gm) (hBn : B ≤ gn) (hap : Apart (some gn) rs) :
  Calls Try.prog 55 #[.agg (ksC x).toArray, .pointer (some ⟨gn, 0, none⟩), .pointer (some ⟨gm, 0, none⟩)] w fun e w' => e = .returned (.bool (verG m x.s)) ∧ All w' (.cells gn 3 [.int .i64 ((k + 1 : Nat) : Int)] :: .cells gm 37 (m.map bv) :: rs) := by
 have hA : All w (.cells gn 3 [.int .i64 k] :: .cells gm 37 (m.map bv) :: .low (.els B 16 x.Ac x.chain.length (hvs x.chain)) :: .low (.els B 16 x.Ap x.path.length (hvs x.path)) :: rs) := ⟨hR.1, hR.2.1, ⟨hx.rc, hB⟩, ⟨hx.rp, hB⟩, hR.2.2⟩
 have HR := Lib.hid hx.r16
 have HC := Lib.hid hx.c16
 have HP := Lib.hid hx.p16
 have HM := Lib.hid hm
 have HAP := Lib.hid hap
 have HZ := Lib.hid hz
 have hgn : gn < w.heap.size := Cells.lt (hR.at_ 0 rfl)
 clear hx hR hm hap hz
 go_enter Try.func55, Try.ntmps55
 go_upto_region 1 with (fail)
 obtain ⟨g, hg⟩ : ∃ g, g = w.heap.size := ⟨_, rfl⟩
 have hgg : gn ≠ g := by omega
 have hBg : B ≤ g := by omega
 refine wp_gen (hA.new (l := ksC x) (g := g) _ 64 hg rfl) ?_
 intro W1 hW1
 simp only [← hg]
 clear hA hg
 have q1 := cellOf (hW1.at_ 1 rfl) (i := 0) rfl
 have z1 := Cells.frozen (hW1.at_ 1 rfl) 0
 have wk : IntKind.i64.wrap ((k : Int) + 1) = ((k + 1 : Nat) : Int) := by rw [IntWalk.i64_in _ (by omega)]; omega
 go_upto_region 2 with (fail)
 refine wp_gen (hW1.store 1 rfl 0 (.int .i64 ((k + 1 : Nat) : Int)) ⟨fun e => hgg (by injection e with e; exact e.symm), fun e => hne (by injection e with e; exact e.symm), by simp [Res.apart, Low.els] <;> omega, by simp [Res.apart, Low.els] <;> omega, HAP.out⟩) ?_
 intro W2 hW2
 simp only [List.set_cons_zero, List.set_cons_succ] at hW2
 clear hW1 q1 z1
 have hve := Verify_any W2 B x.h x.leaf x.r m x.chain x.path x.Ac x.cc x.Ap x.cp HR.out HM.out (hW2.at_ 3 rfl : Els W2 B 16 _ _ _ ∧ _).1 HC.out (hW2.at_ 4 rfl : Els W2 B 16 _ _ _ ∧ _).1 HP.out (hW2.at_ 3 rfl : _ ∧ B ≤ W2.heap.size).2
 go_wp2_with (first
  | (refine wl_load_any rfl 62 (.tmp 7) rfl ⟨g, 0, none⟩ rfl (pkCells x.h x.r) _ (Cells.sub (hW2.at_ 0 rfl) 0 (ks_pk x)) Try.underlying62 rfl (by rw [pkLen HR.out]; kernel_rfl) ?_)
  | (refine wl_load_any rfl 37 (.tmp 2) rfl ⟨gm, 0, none⟩ rfl (m.map bv) _ (Cells.sub (hW2.at_ 2 rfl) 0 (fun j u h => by rwa [Nat.zero_add])) Try.underlying37 rfl (by rw [List.length_map, HM.out]; kernel_rfl) ?_)
  | (refine wl_load_any rfl 60 (.tmp 10) rfl ⟨g, 17, none⟩ rfl (sgCells x.leaf x.Ac x.chain.length x.cc x.Ap x.path.length x.cp) _ (Cells.sub (hW2.at_ 0 rfl) 17 (ks_sg HR.out)) Try.underlying60 rfl (by kernel_rfl) ?_)
  | (go_at_call 56; refine hve.mono ?_; clear hve; rintro e w3 ⟨rfl, hb3⟩; have hW3 := hW2.call hb3))
 go_ret
 exact ⟨rfl, hW3.at_ 1 rfl, hW3.at_ 2 rfl, hW3.2.2.2.2.2⟩

set_option maxHeartbeats 6400000 in
theorem SignersE_any (w : World) (B : Nat) (R : EnvR) (cs : List Value) (hE : EnvAt w B R cs) (hk : R.kind.size ≤ 140737488355328) (hpl : R.pay.length ≤ 140737488355000) (hsl : R.sigs.length ≤ 1000000) (hB : B ≤ w.heap.size) :
  Calls Try.prog 14 #[.agg cs.toArray] w (SgsPost R w) := by
 obtain ⟨Ap, np, cp, As, ns, cc, l, rfl, hpn, hp, hlm, hl, hcp1, hcp2, hcs1, hcs2⟩ := hE
 obtain ⟨kind, pay, sigs⟩ := R
 dsimp only at *
 subst hlm
 rw [List.length_map, hl.len] at hsl
 rw [hpn] at hpl
 have HN := Lib.hid hl.len
 have HVR := Lib.hid (validK_R (kind := kind) (l := l) hpn)
 have hR : All w [.low (.kss B As ns l), .low (.rd B 1 Ap np (pay.map bv)), .kept w w.heap.size] := ⟨⟨hl, hB⟩, ⟨hp, hB⟩, ⟨Below.refl _ _, Nat.le_refl _⟩, trivial⟩
 clear hl hp hpn
 have hzk := zero_ks
 go_enter Try.func14, Try.ntmps14
 go_upto_region 1 with (fail)
 obtain ⟨g, hg⟩ : ∃ g, g = w.heap.size := ⟨_, rfl⟩
 have hBg : B ≤ g := by omega
 have hgw : w.heap.size ≤ g := by omega
 refine wp_gen (hR.new (l := envC kind Ap np cp As ns cc) (g := g) _ 25 hg rfl) ?_
 intro W1 hW1
 simp only [← hg]
 clear hR hg
 have hva := ValidE_any W1 B kind Ap np cp As ns cc l (hW1.at_ 1 rfl : Kss W1 B As ns l ∧ _).1 hk (by omega) (by omega) (hW1.at_ 1 rfl : _ ∧ B ≤ W1.heap.size).2
 obtain ⟨vb, hvb⟩ : ∃ vb, validR ⟨kind, pay, l.map Ks.s⟩ = vb := ⟨_, rfl⟩
 rw [HVR.out, hvb] at hva
 have HVB := Lib.hid hvb
 clear hvb
 cases vb with
 | false =>
  have HS : Hid (signersE ⟨kind, pay, l.map Ks.s⟩ = []) := Lib.hid (signersE_bad HVB.out)
  go_wp2_with (first
   | (refine wl_load_any rfl 25 (.tmp 1) rfl ⟨g, 0, none⟩ rfl (envC kind Ap np cp As ns cc) _ (Cells.sub (hW1.at_ 0 rfl) 0 (fun j u h => by rwa [Nat.zero_add])) Try.underlying25 rfl (by kernel_rfl) ?_)
   | (go_at_call 11; refine hva.mono ?_; clear hva; rintro e w2 ⟨rfl, hb2⟩; have hI := hW1.call hb2; clear hW1 hb2))
  go_ret
  exact ⟨none, 0, 0, rfl, by rw [HS.out]; exact Digs.nil, Nat.le_refl _, Nat.zero_le _, (hI.at_ 3 rfl : _ ∧ _).1⟩
 | true =>
  have HS : Hid (signersE ⟨kind, pay, l.map Ks.s⟩ = upK (msgS kind pay) l ns) := Lib.hid (by rw [← HN.out]; exact upK_all HVB.out)
  have HCH : Hid (∀ W, All W [.cells g 25 (envC kind Ap np cp As ns cc), .low (.kss B As ns l), .low (.rd B 1 Ap np (pay.map bv)), .kept w w.heap.size] → Calls Try.prog 33 #[.agg (envC kind Ap np cp As ns cc).toArray] W fun e w' => ∃ gn gm, e = .returned (.tuple #[.func (.func 55) #[] #[.pointer (some ⟨gn, 0, none⟩), .pointer (some ⟨gm, 0, none⟩)], .func (.func 57) #[] #[.pointer (some ⟨gn, 0, none⟩)]]) ∧ W.heap.size ≤ gn ∧ W.heap.size ≤ gm ∧ gm < gn ∧ Cells w' gm 37 ((msgS kind pay).map bv) ∧ Cells w' gn 3 [.int .i64 (0 : Nat)] ∧ Below W.heap.size W w') := Lib.hid (fun W hW => checker_any W B kind Ap np cp As ns cc pay (hW.at_ 2 rfl : Rd W B 1 Ap np _ ∧ _).1 hk (by omega) (hW.at_ 2 rfl : _ ∧ B ≤ W.heap.size).2)
  obtain ⟨m, hm⟩ : ∃ m, msgS kind pay = m := ⟨_, rfl⟩
  rw [hm] at HS HCH
  have HML : Hid (m.length = 32) := Lib.hid (by rw [← hm]; exact msgS_len _ _)
  clear hm
  go_wp2_with (first
   | (refine wl_load_any rfl 25 (.tmp 1) rfl ⟨g, 0, none⟩ rfl (envC kind Ap np cp As ns cc) _ (Cells.sub (hW1.at_ 0 rfl) 0 (fun j u h => by rwa [Nat.zero_add])) Try.underlying25 rfl (by kernel_rfl) ?_)
   | (go_at_call 11; refine hva.mono ?_; clear hva; rintro e w2 ⟨rfl, hb2⟩; have hI := hW1.call hb2; have hch := HCH.out w2 hI; clear hW1 hb2)
   | (refine wl_load_any rfl 25 (.tmp 1) rfl ⟨g, 0, none⟩ rfl (envC kind Ap np cp As ns cc) _ (Cells.sub (hI.at_ 0 rfl) 0 (fun j u h => by rwa [Nat.zero_add])) Try.underlying25 rfl (by kernel_rfl) ?_)
   | (go_at_call 33; refine hch.mono ?_; clear hch; rintro e w3 ⟨gn, gm, rfl, hgn, hgm, hne, hcm, hcn, hb3⟩; have hI3 := hI.call hb3))
  have hne' : gn ≠ gm := by omega
  have hggn : g < gn := by have : g < w2.heap.size := Cells.lt (hI.at_ 0 rfl); omega
  have hggm : g < gm := by have : g < w2.heap.size := Cells.lt (hI.at_ 0 rfl); omega
  have hI4 : All w3 [.own (gn + 1) 37 32 none 0 0 (dvs (upK m l 0)).flatten, .cells gn 3 [.int .i64 (0 : Nat)], .cells gm 37 (m.map bv), .cells g 25 (envC kind Ap np cp As ns cc), .low (.kss B As ns l), .low (.rd B 1 Ap np (pay.map bv)), .kept w w.heap.size] := ⟨Go.Adm.Own.nil _ _ _ _, hcn, hcm, hI3⟩
  clear hI hI3 hcn hcm hgn hgm hb3
  go_loopw [3] (fun o wr => ∃ (k n c : Nat) (A : Option Addr), k ≤ ns ∧ n = (upK m l k).length ∧ o = .slice A n c ∧ All wr [.own (gn + 1) 37 32 A n c (dvs (upK m l k)).flatten, .cells gn 3 [.int .i64 k], .cells gm 37 (m.map bv), .cells g 25 (envC kind Ap np cp As ns cc), .low (.kss B As ns l), .low (.rd B 1 Ap np (pay.map bv)), .kept w w.heap.size]) (fun _ wr => ns - cntOf wr gn)
  case atStart => exact ⟨0, 0, 0, none, by omega, by simp [upK], rfl, hI4⟩
  case round =>
   clear hI4
   obtain ⟨k, n, c, A, hk, hn, rfl, hI⟩ := hrel
   have HCK : Hid (cntOf wr gn = k) := Lib.hid (cntOf_eq (hI.at_ 1 rfl))
   have HNE := Lib.hid hn
   have hnk : n ≤ k := by rw [hn]; exact upK_len m l k
   clear hn
   have hoR : ∀ q, (Value.slice A n c).ownBlock = some q → gn + 1 ≤ q := fun q hq => ((hI.at_ 0 rfl : Go.Adm.Own wr _ _ _ _ _ _ _).lt hq).1
   go_wp2_with fail
   refine wp_region_hops 5 [15, 16, 17, 18, 19] _
    [.eq (.func (.func 57) #[] #[.pointer (some ⟨gn, 0, none⟩)]), .eq (.int .i64 k), .eq (.pointer (some ⟨g, 2, none⟩)), .eq (.slice As ns cc), .eq (.int .i64 ns)]
    (by kernel_rfl) (by kernel_rfl) hI rfl ?hops ?fin
   case hops =>
    refine ⟨?_, ?_, ?_, ?_, ?_, trivial⟩
    ·intro a W hW hb hd K hK
     have b5 := hb 5 rfl
     go_simp
     exact hK _ _ (World.grownBy.refl _ _) rfl
    ·intro a W hW hb hd K hK
     have b15 : a.tmps[15]?.getD undef = _ := hd ⟨0, .data⟩ (by simp) rfl
     have hcn := asked_any W gn k (hW.at_ 1 rfl)
     go_simp
     refine hcn.mono ?_
     rintro e w' ⟨rfl, rfl⟩
     exact hK _ _ (World.grownBy.refl _ _) rfl
    ·intro a W hW hb hd K hK
     have b1 := hb 1 rfl
     go_simp
     exact hK _ _ (World.grownBy.refl _ _) rfl
    ·intro a W hW hb hd K hK
     have b17 : a.tmps[17]?.getD undef = _ := hd ⟨2, .data⟩ (by simp) rfl
     have q1 := (env_cells kind Ap np cp As ns cc (hW.at_ 3 rfl)).2.2
     go_simp
     exact hK _ _ (World.grownBy.refl _ _) rfl
    ·intro a W hW hb hd K hK
     have b18 : a.tmps[18]?.getD undef = _ := hd ⟨3, .data⟩ (by simp) rfl
     go_simp
     exact hK _ _ (World.grownBy.refl _ _) rfl
   case fin =>
    intro vs V hV hv
    have e1 : vs 1 = _ := hv 1 (by decide)
    have e4 : vs 4 = _ := hv 4 (by decide)
    clear hv hI
    simp only [putAll, List.drop_succ_cons, List.drop_zero, e1, e4, Act.put, List.setIfInBounds_toArray, List.set_cons_succ, List.set_cons_zero]
    clear e1 e4
    by_cases hlt : k < ns
    ·have d1 : decide ((k : Int) < (ns : Int)) = true := by simp; omega
     have hkl : k < l.length := by rw [HN.out]; exact hlt
     have hbl := (hV.at_ 4 rfl : Kss V B As ns l ∧ B ≤ V.heap.size)
     obtain ⟨ad, rfl, hadB, hc⟩ := Els.elem hbl.1.els hkl
     have HX : Hid (∀ W, All W [.own (gn + 1) 37 32 A n c (dvs (upK m l k)).flatten, .cells gn 3 [.int .i64 k], .cells gm 37 (m.map bv), .cells g 25 (envC kind Ap np cp (some ad) ns cc), .low (.kss B (some ad) ns l), .low (.rd B 1 Ap np (pay.map bv)), .kept w w.heap.size] → ∀ q s, (ksC l[k])[q]? = some s → W.cell? ((ad.add (k * 20)).add q) = some s) := Lib.hid (fun W hW => by
      obtain ⟨ad', e, _, hc⟩ := Els.elem (hW.at_ 4 rfl : Kss W B (some ad) ns l ∧ B ≤ W.heap.size).1.els hkl
      obtain rfl := Option.some.inj e
      exact hc)
     have hxr := Lib.hid (hbl.1.each _ (List.getElem_mem hkl)).r16
     have HBL : Hid (∀ W, (Kss W B (some ad) ns l ∧ B ≤ W.heap.size) → KsOk W B l[k]) := Lib.hid (fun W hW => hW.1.each _ (List.getElem_mem hkl))
     have HYES : Hid (verG m l[k].s = true → upK m l (k + 1) = upK m l k ++ [idK l[k]]) := Lib.hid (upK_yes hkl)
     have HNO : Hid (verG m l[k].s = false → upK m l (k + 1) = upK m l k) := Lib.hid (upK_no hkl)
     clear hc hbl
     generalize l[k] = x at *
     have wk0 : (0 : Int) ≤ (k : Int) := by omega
     have wk1 : (k : Int) < (ns : Int) := by omega
     have wk2 : ((k : Int)).toNat = k := by omega
     have hsW : ∀ W, All W [.own (gn + 1) 37 32 A n c (dvs (upK m l k)).flatten, .cells gn 3 [.int .i64 k], .cells gm 37 (m.map bv), .cells g 25 (envC kind Ap np cp (some ad) ns cc), .low (.kss B (some ad) ns l), .low (.rd B 1 Ap np (pay.map bv)), .kept w w.heap.size] → gn + 1 ≤ W.heap.size := fun W hW => Cells.lt (hW.at_ 1 rfl)
     go_wp2_with fail
     refine wp_region_hops 7 [21, 22, 23, 24, 25, 26, 6] _
      [.eq (.pointer (some ⟨g, 2, none⟩)), .eq (.slice (some ad) ns cc), .eq (.func (.func 57) #[] #[.pointer (some ⟨gn, 0, none⟩)]), .eq (.int .i64 k), .eq (.pointer (some (ad.add (k * 20)))), .eq (.agg (ksC x).toArray), .box (gn + 1) 64 ksZ]
      (by kernel_rfl) (by kernel_rfl) hV rfl ?hops6 ?fin6
     case hops6 =>
      refine ⟨?_, ?_, ?_, ?_, ?_, ?_, ?_, trivial⟩
      ·intro a W hW hb hd K hK
       have b1 := hb 1 rfl
       go_simp
       exact hK _ _ (World.grownBy.refl _ _) rfl
      ·intro a W hW hb hd K hK
       have b21 : a.tmps[21]?.getD undef = _ := hd ⟨0, .data⟩ (by simp) rfl
       have q1 := (env_cells kind Ap np cp (some ad) ns cc (hW.at_ 3 rfl)).2.2
       go_simp
       exact hK _ _ (World.grownBy.refl _ _) rfl
      ·intro a W hW hb hd K hK
       have b5 := hb 5 rfl
       go_simp
       exact hK _ _ (World.grownBy.refl _ _) rfl
      ·intro a W hW hb hd K hK
       have b23 : a.tmps[23]?.getD undef = _ := hd ⟨2, .data⟩ (by simp) rfl
       have hcn := asked_any W gn k (hW.at_ 1 rfl)
       go_simp
       refine hcn.mono ?_
       rintro e w' ⟨rfl, rfl⟩
       exact hK _ _ (World.grownBy.refl _ _) rfl
      ·intro a W hW hb hd K hK
       have b22 : a.tmps[22]?.getD undef = _ := hd ⟨1, .data⟩ (by simp) rfl
       have b24 : a.tmps[24]?.getD undef = _ := hd ⟨3, .data⟩ (by simp) rfl
       go_simp
       exact hK _ _ (World.grownBy.refl _ _) rfl
      ·intro a W hW hb hd K hK
       have b25 : a.tmps[25]?.getD undef = _ := hd ⟨4, .data⟩ (by simp) rfl
       refine wp_load_any 64 (.tmp 25) rfl (ad.add (k * 20)) (show a.eval (.tmp 25) = _ from by simp only [Act.eval, Array.getD_eq_getD_getElem?]; exact b25) (ksC x) _ (HX.out W hW) Try.underlying64 rfl (by rw [ksC_len hxr.out]; kernel_rfl) ?_
       exact hK _ _ (World.grownBy.refl _ _) rfl
      ·intro a W hW hb hd K hK
       go_simp
       exact hK _ _ (grown_alloc _ _) ⟨_, rfl, hsW W hW, Cells.new _ _ _⟩
     case fin6 =>
      intro vs V2 hV2 hv
      have e5 : vs 5 = _ := hv 5 (by decide)
      obtain ⟨gx, e6, hgx, hCx⟩ := (hv 6 (by decide) : VF.ok (.box (gn + 1) 64 ksZ) (vs 6) V2)
      clear hv hV hsW
      simp only [putAll, List.drop_succ_cons, List.drop_zero, e5, e6, Act.put, List.setIfInBounds_toArray, List.set_cons_succ, List.set_cons_zero]
      clear e5 e6
      have hrx := own_ne_own_cells (hV2.at_ 0 rfl) hCx (by decide)
      have hmx : gm ≠ gx := Cells.ne (hV2.at_ 2 rfl) hCx (by decide)
      have hV3 : All V2 (.cells gx 64 ksZ :: [.own (gn + 1) 37 32 A n c (dvs (upK m l k)).flatten, .cells gn 3 [.int .i64 k], .cells gm 37 (m.map bv), .cells g 25 (envC kind Ap np cp (some ad) ns cc), .low (.kss B (some ad) ns l), .low (.rd B 1 Ap np (pay.map bv)), .kept w w.heap.size]) := ⟨hCx, hV2⟩
      clear hV2 hCx
      refine wl_store_at hV3 0 rfl 64 (.tmp 6) (.tmp 26) rfl gx _ _ (ksC x) rfl rfl rfl (by rw [ksC_len hxr.out]; rfl) (by rw [ksC_len hxr.out]; kernel_rfl) (ksC_one x) ⟨fun q hq => .inr (by injection hq with hq; subst hq; exact hrx), by simp [Res.apart] <;> omega, fun e => hmx (by injection e), by simp [Res.apart] <;> omega, by simp [Res.apart, Low.kss] <;> omega, by simp [Res.apart, Low.rd] <;> omega, by simp [Res.apart] <;> omega, trivial⟩ ?_
      intro V4 hV4 hs4
      simp only [List.set_cons_zero] at hV4
      clear hV3 hs4
      have hV5 : All V4 (.cells gn 3 [.int .i64 k] :: .cells gm 37 (m.map bv) :: [.own (gn + 1) 37 32 A n c (dvs (upK m l k)).flatten, .cells gx 64 (ksC x), .cells g 25 (envC kind Ap np cp (some ad) ns cc), .low (.kss B (some ad) ns l), .low (.rd B 1 Ap np (pay.map bv)), .kept w w.heap.size]) := ⟨hV4.at_ 2 rfl, hV4.at_ 3 rfl, hV4.at_ 1 rfl, hV4.at_ 0 rfl, hV4.2.2.2.2⟩
      clear hV4
      obtain ⟨vx, hvx⟩ : ∃ vx, verG m x.s = vx := ⟨_, rfl⟩
      have hve := verify_any V4 B gn gm k x m _ (HBL.out V4 (hV5.at_ 5 rfl)) (hV5.at_ 5 rfl : _ ∧ B ≤ V4.heap.size).2 HML.out (by omega) hV5 rfl hne' (by omega) ⟨fun q hq => .inr (fun e => by injection hq with hq; have := hoR _ e; omega), by simp [Res.apart] <;> omega, by simp [Res.apart] <;> omega, by simp [Res.apart, Low.kss] <;> omega, by simp [Res.apart, Low.rd] <;> omega, by simp [Res.apart] <;> omega, trivial⟩
      rw [hvx] at hve
      have HVX := Lib.hid hvx
      clear hvx
      have hidc : ∀ W, Calls Try.prog 28 #[.agg (pkCells x.h x.r).toArray] W fun e w' => e = .returned (.agg ((idK x).map bv).toArray) ∧ Below W.heap.size W w' := fun W => ID_any W x.h x.r hxr.out
      have HI32 : Hid ((idK x).length = 32) := Lib.hid (idK_len x)
      have HIDC := Lib.hid hidc
      clear hidc
      cases vx with
      | true =>
       have HU := Lib.hid (HYES.out HVX.out)
       clear HYES HNO HVX
       generalize idK x = d at *
       go_wp2_with (first
        | (refine wl_load_any rfl 64 (.tmp 6) rfl ⟨gx, 0, none⟩ rfl (ksC x) _ (Cells.sub (hV5.at_ 3 rfl) 0 (fun j u h => by rwa [Nat.zero_add])) Try.underlying64 rfl (by rw [ksC_len hxr.out]; kernel_rfl) ?_)
        | (go_at_call 55; refine hve.mono ?_; clear hve; rintro e w6 ⟨rfl, hV6⟩; clear hV5)
        | (refine wl_load_any rfl 62 (.tmp 31) rfl ⟨gx, 0, none⟩ rfl (pkCells x.h x.r) _ (Cells.sub (hV6.at_ 3 rfl) 0 (ks_pk x)) Try.underlying62 rfl (by rw [pkLen hxr.out]; kernel_rfl) ?_)
        | (go_at_call 28; refine (HIDC.out w6).mono ?_; rintro e w7 ⟨rfl, hb7⟩; have hV7 := hV6.call hb7; have hrx7 := own_ne_own_cells (hV7.at_ 2 rfl) (hV7.at_ 3 rfl) (by decide))
        | (refine wl_lit1 el_dg rfl (.tmp 33) rfl (d.map bv) rfl (by rw [List.length_map]; exact HI32.out) (by decide) ?_)
        | (at_builtin; refine wl_app_at el_dg (hV7.alloc _) 2 rfl (.tmp 30) (.tmp 34) rfl (gn + 1) _ _ _ _ rfl rfl (w7.heap.size + 1) _ 1 1 (d.map bv) rfl (Rd.lit w7 (d.map bv).toArray _ 1 (by rw [List.size_toArray, List.length_map, HI32.out])) (bv_one _) (by omega) (by have := (hV7.at_ 0 rfl : Cells w7 gn _ _).lt; simp; omega) (by intro q hq hb; exact ⟨by simp [Res.apart] <;> omega, by simp [Res.apart] <;> omega, fun e => hrx7 (by injection e with e; subst e; exact hb), by simp [Res.apart] <;> omega, by simp [Res.apart, Low.kss] <;> omega, by simp [Res.apart, Low.rd] <;> omega, by simp [Res.apart] <;> omega, trivial⟩) ?_; intro A8 c8 w8 hJ8 hs8; simp only [List.set_cons_zero, List.set_cons_succ] at hJ8))
       have hJ9 : All w8 [.own (gn + 1) 37 32 A8 (n + 1) c8 (dvs (upK m l (k + 1))).flatten, .cells gn 3 [.int .i64 ((k + 1 : Nat) : Int)], .cells gm 37 (m.map bv), .cells g 25 (envC kind Ap np cp (some ad) ns cc), .low (.kss B (some ad) ns l), .low (.rd B 1 Ap np (pay.map bv)), .kept w w.heap.size] := ⟨by rw [HU.out]; exact (hJ8.at_ 2 rfl : Go.Adm.Own w8 _ _ _ _ _ _ _).cast rfl (by simp [dvs]), hJ8.at_ 0 rfl, hJ8.at_ 1 rfl, hJ8.2.2.2.2⟩
       have hc9 : cntOf w8 gn = k + 1 := cntOf_eq (hJ8.at_ 0 rfl)
       have hnn : n + 1 = (upK m l (k + 1)).length := by rw [HU.out, List.length_append, ← HNE.out]; rfl
       go_wp2_with fail
       refine ⟨⟨k + 1, n + 1, c8, A8, by omega, hnn, rfl, hJ9⟩, ?_⟩
       rw [HCK.out, hc9]
       omega
      | false =>
       have HU := Lib.hid (HNO.out HVX.out)
       clear HYES HNO HVX HIDC
       go_wp2_with (first
        | (refine wl_load_any rfl 64 (.tmp 6) rfl ⟨gx, 0, none⟩ rfl (ksC x) _ (Cells.sub (hV5.at_ 3 rfl) 0 (fun j u h => by rwa [Nat.zero_add])) Try.underlying64 rfl (by rw [ksC_len hxr.out]; kernel_rfl) ?_)
        | (go_at_call 55; refine hve.mono ?_; clear hve; rintro e w6 ⟨rfl, hV6⟩; clear hV5))
       have hJ9 : All w6 [.own (gn + 1) 37 32 A n c (dvs (upK m l (k + 1))).flatten, .cells gn 3 [.int .i64 ((k + 1 : Nat) : Int)], .cells gm 37 (m.map bv), .cells g 25 (envC kind Ap np cp (some ad) ns cc), .low (.kss B (some ad) ns l), .low (.rd B 1 Ap np (pay.map bv)), .kept w w.heap.size] := ⟨by rw [HU.out]; exact hV6.at_ 2 rfl, hV6.at_ 0 rfl, hV6.at_ 1 rfl, hV6.2.2.2.2⟩
       have hc9 : cntOf w6 gn = k + 1 := cntOf_eq (hV6.at_ 0 rfl)
       refine ⟨⟨k + 1, n, c, A, by omega, by rw [HU.out]; exact HNE.out, rfl, hJ9⟩, ?_⟩
       rw [HCK.out, hc9]
       omega
    ·obtain rfl : k = ns := by omega
     have d1 : decide ((k : Int) < (k : Int)) = false := by simp
     go_wp2_with fail
     go_ret
     have hO : Go.Adm.Own V _ _ _ _ _ _ _ := hV.at_ 0 rfl
     exact ⟨A, n, c, rfl, by rw [HS.out]; exact own_digsE (hV.at_ 0 rfl) upK_32 HNE.out.symm, hO.cap.1, hO.cap.2, (hV.at_ 6 rfl : _ ∧ _).1⟩
end Go.Proofs.Ytfakjamocpamiaa

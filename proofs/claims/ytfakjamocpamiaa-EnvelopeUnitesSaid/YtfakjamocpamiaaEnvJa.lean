/- Joining envelopes: plain steps, and the contracts of small callees. -/
import Derived.Test.YtfakjamocpamiaaEnvU
import Derived.Test.YtfakjamocpamiaaEnvH
import Derived.Test.YtfakjamocpamiaaEnvE
import Derived.Test.YtfakjamocpamiaaEnvD
import Derived.Test.YtfakjamocpamiaaEnvY
set_option linter.unusedSimpArgs false
set_option linter.unusedVariables false
set_option maxRecDepth 100000
namespace Go.Adm
open Go Go.RowKit Go.Proofs.Ytfakjamocpamiaa
/-- what the first k signatures of the second have made of the first's -/
noncomputable def accS (m : List UInt8) (l2 : List Ks) (k : Nat) (a : List Sg) : List Sg := ((l2.map Ks.s).take k).foldl (stepG m) a
theorem accS_zero (m : List UInt8) (l2 : List Ks) (a : List Sg) : accS m l2 0 a = a := rfl
theorem accS_succ {m : List UInt8} {l2 : List Ks} {k : Nat} {a : List Sg} (hk : k < l2.length) : accS m l2 (k + 1) a = stepG m (accS m l2 k a) l2[k].s := by
 unfold accS
 rw [List.take_succ_eq_append_getElem (by rw [List.length_map]; exact hk), List.foldl_append, List.getElem_map]
 rfl
theorem accS_all (m : List UInt8) (l2 : List Ks) (a : List Sg) : accS m l2 l2.length a = (l2.map Ks.s).foldl (stepG m) a := by
 unfold accS
 rw [List.take_of_length_le (by rw [List.length_map]; exact Nat.le_refl _)]
theorem accS_sort {m : List UInt8} {l2 : List Ks} {k : Nat} {a : List Sg} (h : SortG a) : SortG (accS m l2 k a) := foldG_sort m _ _ h
theorem accS_len (m : List UInt8) (l2 : List Ks) (k : Nat) (a : List Sg) : (accS m l2 k a).length ≤ a.length + k := by
 have h := foldG_len m ((l2.map Ks.s).take k) a
 rw [List.length_take] at h
 unfold accS; omega
theorem jn_new {m : List UInt8} {l2 acc : List Ks} {k : Nat} {a : List Sg} {x' : Ks} (hk : k < l2.length) (h : acc.map Ks.s = accS m l2 k a) (hh : hasK acc (idK l2[k]) = false) (hx : x'.s = l2[k].s) : (acc.take (placeK acc (idK l2[k])) ++ x' :: acc.drop (placeK acc (idK l2[k]))).map Ks.s = accS m l2 (k + 1) a := by
 have hh' : hasG (acc.map Ks.s) (idG l2[k].s) = false := by rw [idG_s]; exact hh
 rw [accS_succ hk, ← h, stepG_new hh', List.map_append, List.map_cons, List.map_take, List.map_drop, hx]
 unfold putG placeK
 rw [idG_s]
theorem jn_had {m : List UInt8} {l2 acc : List Ks} {k p : Nat} {a : List Sg} (hk : k < l2.length) (h : acc.map Ks.s = accS m l2 k a) (hh : hasK acc (idK l2[k]) = true) (hp : placeK acc (idK l2[k]) = p) (hpl : p < acc.length) : accS m l2 (k + 1) a = if verG m acc[p].s = false ∧ verG m l2[k].s = true then (acc.map Ks.s).set p l2[k].s else acc.map Ks.s := by
 rw [accS_succ hk, ← h, stepG_had (k := p) (by rw [List.length_map]; exact hpl) (by rw [idG_s]; exact hp) (by rw [idG_s]; exact hh), List.getElem_map]
theorem jn_place {l : List Ks} {d : List UInt8} (hs : SortK l) (h : hasK l d = true) : placeK l d < l.length := by
 obtain ⟨h1, -⟩ := hasG_at (sortK_iff.1 hs) h
 rwa [List.length_map] at h1
theorem ba_ne {a b : ByteArray} (h : a ≠ b) : ¬ a.toList = b.toList := fun e => h (by
 rw [ByteArray.toList_eq, ByteArray.toList_eq] at e
 cases a with
 | mk x => cases b with
  | mk y =>
   have : x = y := Array.ext' e
   rw [this])
/-- what Join gives -/
def JoinPost (S : EnvR × Int) (w : World) (e : Ending) (w' : World) : Prop :=
 ∃ cs, e = .returned (.tuple #[.agg cs.toArray, .int .i64 S.2]) ∧ EnvAt w' w'.heap.size S.1 cs ∧ Below w.heap.size w w'
theorem joinE_bad1 {R S : EnvR} (h : validR R = false) : joinE R S = (envR0, 1) := by unfold joinE; rw [if_pos (.inl h)]
theorem joinE_bad2 {R S : EnvR} (h : validR S = false) : joinE R S = (envR0, 1) := by unfold joinE; rw [if_pos (.inr h)]
theorem joinE_dif {R S : EnvR} (h1 : validR R = true) (h2 : validR S = true) (h : R.kind ≠ S.kind ∨ R.pay ≠ S.pay) : joinE R S = (envR0, 9) := by
 unfold joinE
 rw [if_neg (by simp [h1, h2]), if_pos h]
theorem joinE_end {kind : ByteArray} {pay : List UInt8} {l l2 acc : List Ks} (h1 : validR ⟨kind, pay, l.map Ks.s⟩ = true) (h2 : validR ⟨kind, pay, l2.map Ks.s⟩ = true) (ha : acc.map Ks.s = accS (msgS kind pay) l2 l2.length (l.map Ks.s)) :
  joinE ⟨kind, pay, l.map Ks.s⟩ ⟨kind, pay, l2.map Ks.s⟩ = if 8 < acc.length then (envR0, 3) else (⟨kind, pay, acc.map Ks.s⟩, 0) := by
 unfold joinE
 rw [if_neg (by simp [h1, h2]), if_neg (by simp)]
 have h3 : acc.length = (accS (msgS kind pay) l2 l2.length (l.map Ks.s)).length := by rw [← ha, List.length_map]
 rw [accS_all] at h3 ha
 rw [h3]
 simp only [ha]
/-- a signature in a row put in place of another -/
theorem KsF.set {l : List Ks} {p b : Nat} {x : Ks} (h : KsF (l.set p x) b) : KsF l b ∨ KsF [x] b := by
 obtain ⟨y, hy, hb⟩ := h
 rcases List.mem_or_eq_of_mem_set hy with h1 | rfl
 ·exact .inl ⟨y, h1, hb⟩
 ·exact .inr ⟨y, List.mem_singleton.2 rfl, hb⟩
theorem ksn_set {w : World} {t : TypeId} {base n c p G : Nat} {l : List Ks} {x : Ks} (ho : Go.Adm.Own w base t 20 (some ⟨G, 0, none⟩) n c ((l.set p x).map ksC).flatten) (h1 : (Res.ksd base l).ok w) (h2 : (Res.ksd base [x]).ok w) (hG1 : ¬ KsF l G) (hG2 : ¬ KsF [x] G) : (Res.ksn t base (some ⟨G, 0, none⟩) n c (l.set p x)).ok w := by
 have a1 : Nest w base 0 1 none 0 0 [] 0 (KsF l) (KsI l) := h1
 have a2 : Nest w base 0 1 none 0 0 [] 0 (KsF [x]) (KsI [x]) := h2
 refine ⟨ho, fun y hy => ?_, KsI.st _, fun b hb => ?_, fun b hb hF => ?_⟩
 ·rcases List.mem_or_eq_of_mem_set hy with h | rfl
  ·exact a1.inn y h
  ·exact a2.inn _ (List.mem_singleton.2 rfl)
 ·rcases hb.set with h | h
  ·exact a1.fr b h
  ·exact a2.fr b h
 ·have hb' : G = b := by simpa [Value.ownBlock] using hb
  subst hb'
  rcases hF.set with h | h
  ·exact hG1 h
  ·exact hG2 h
end Go.Adm
namespace Go.Proofs.Ytfakjamocpamiaa
open Go Go.RowKit Go.Adm
theorem conv_bE {w : World} {B : Nat} {A : Option Addr} {n c : Nat} {b : List UInt8} (h : Rd w B 1 A n (b.map bv)) : (convert 22 9 (.slice A n c)).run Try.prog w = .ok (.string ⟨b.toArray⟩) w :=
 run_conv (P := Try.prog) w 22 9 5 el_bE.ht Try.underlying5 Try.underlying9 h
theorem bytesEqual_any (w : World) (B : Nat) (A1 A2 : Option Addr) (n1 n2 c1 c2 : Nat) (x y : List UInt8) (hx : Rd w B 1 A1 n1 (x.map bv)) (hy : Rd w B 1 A2 n2 (y.map bv)) :
  Calls Try.prog 49 #[.slice A1 n1 c1, .slice A2 n2 c2] w fun e w' => e = .returned (.bool (decide (x = y))) ∧ w = w' := by
 have q1 := fun c => conv_bE (c := c) hx
 have q2 := fun c => conv_bE (c := c) hy
 obtain ⟨sx, hsx⟩ : ∃ s : ByteArray, s = ⟨x.toArray⟩ := ⟨_, rfl⟩
 obtain ⟨sy, hsy⟩ : ∃ s : ByteArray, s = ⟨y.toArray⟩ := ⟨_, rfl⟩
 rw [← hsx] at q1
 rw [← hsy] at q2
 have hd : decide (x = y) = (sx.toList == sy.toList) := by
  rw [hsx, hsy, ByteArray.toList_eq, ByteArray.toList_eq]
  by_cases h : x = y
  ·subst h; simp
  ·simp [h]
 have HD := Lib.hid hd
 clear hd hx hy hsx hsy
 go_enter Try.func49, Try.ntmps49
 go_wp2
 go_ret
 exact ⟨ret_bool HD.out.symm, rfl⟩
set_option maxHeartbeats 3200000 in
/-- the checker's function, where the signature may lie in the caller's own rows -/
theorem verify_all (w : World) (gn gm k : Nat) (x : Ks) (m : List UInt8) (rs : List Res) (hx : ∀ W, All W rs → KsOk W W.heap.size x) (hm : m.length = 32) (hk : k ≤ 1000000) (hR : All w (.cells gn 3 [.int .i64 k] :: .cells gm 37 (m.map bv) :: rs)) (hne : gn ≠ gm) (hap : Apart (some gn) rs) :
  Calls Try.prog 55 #[.agg (ksC x).toArray, .pointer (some ⟨gn, 0, none⟩), .pointer (some ⟨gm, 0, none⟩)] w fun e w' => e = .returned (.bool (verG m x.s)) ∧ All w' (.cells gn 3 [.int .i64 ((k + 1 : Nat) : Int)] :: .cells gm 37 (m.map bv) :: rs) := by
 have HX := Lib.hid hx
 have HR := Lib.hid (hx w hR.2.2).r16
 have HM := Lib.hid hm
 have HAP := Lib.hid hap
 have hgn : gn < w.heap.size := Cells.lt (hR.at_ 0 rfl)
 clear hx hm hap
 go_enter Try.func55, Try.ntmps55
 go_upto_region 1 with (fail)
 obtain ⟨g, hg⟩ : ∃ g, g = w.heap.size := ⟨_, rfl⟩
 have hgg : gn ≠ g := by omega
 refine wp_gen (hR.new (l := ksC x) (g := g) _ 64 hg rfl) ?_
 intro W1 hW1
 simp only [← hg]
 clear hR hg
 have q1 := cellOf (hW1.at_ 1 rfl) (i := 0) rfl
 have z1 := Cells.frozen (hW1.at_ 1 rfl) 0
 have wk : IntKind.i64.wrap ((k : Int) + 1) = ((k + 1 : Nat) : Int) := by rw [IntWalk.i64_in _ (by omega)]; omega
 go_upto_region 2 with (fail)
 refine wp_gen (hW1.store 1 rfl 0 (.int .i64 ((k + 1 : Nat) : Int)) ⟨fun e => hgg (by injection e with e; exact e.symm), fun e => hne (by injection e with e; exact e.symm), HAP.out⟩) ?_
 intro W2 hW2
 simp only [List.set_cons_zero, List.set_cons_succ] at hW2
 clear hW1 q1 z1
 have hxo := HX.out W2 hW2.2.2.2
 have hve := Verify_any W2 W2.heap.size x.h x.leaf x.r m x.chain x.path x.Ac x.cc x.Ap x.cp HR.out HM.out hxo.rc hxo.c16 hxo.rp hxo.p16 (Nat.le_refl _)
 clear hxo
 go_wp2_with (first
  | (refine wl_load_any rfl 62 (.tmp 7) rfl ⟨g, 0, none⟩ rfl (pkCells x.h x.r) _ (Cells.sub (hW2.at_ 0 rfl) 0 (ks_pk x)) Try.underlying62 rfl (by rw [pkLen HR.out]; kernel_rfl) ?_)
  | (refine wl_load_any rfl 37 (.tmp 2) rfl ⟨gm, 0, none⟩ rfl (m.map bv) _ (Cells.sub (hW2.at_ 2 rfl) 0 (fun j u h => by rwa [Nat.zero_add])) Try.underlying37 rfl (by rw [List.length_map, HM.out]; kernel_rfl) ?_)
  | (refine wl_load_any rfl 60 (.tmp 10) rfl ⟨g, 17, none⟩ rfl (sgCells x.leaf x.Ac x.chain.length x.cc x.Ap x.path.length x.cp) _ (Cells.sub (hW2.at_ 0 rfl) 17 (ks_sg HR.out)) Try.underlying60 rfl (by kernel_rfl) ?_)
  | (go_at_call 56; refine hve.mono ?_; clear hve; rintro e w3 ⟨rfl, hb3⟩; have hW3 := hW2.call hb3))
 go_ret
 exact ⟨rfl, hW3.at_ 1 rfl, hW3.at_ 2 rfl, hW3.2.2.2⟩
end Go.Proofs.Ytfakjamocpamiaa

/- Sign of the document, refused. awake. Signers and public keys compared; Sign at every input. A region that draws its order, in which some extracts may come late: they are taken as soon as they may. Sign with rows of its own; pieces for the laws that sign. -/
import Derived.Test.YtfakjamocpamiaaKey27
import Derived.Test.YtfakjamocpamiaaGen2
set_option linter.unusedSimpArgs false
set_option linter.unusedVariables false
namespace Go.Proofs.Ytfakjamocpamiaa
open Go Go.RowKit Go.Adm

set_option maxRecDepth 100000 in
set_option maxHeartbeats 3200000 in
theorem refSign_bad (w : World) (seed d : List UInt8) (h n : Int) (hs : seed.length = 16) (hd : d.length = 32) (hb : hOk h = false ∨ n < 0) :
  Calls Try.prog 44 #[.agg (siCells seed h n).toArray, .agg (d.map bv).toArray] w fun e w' => e = .returned (.tuple #[.agg siz.toArray, .agg sgz.toArray, .int .i64 1]) ∧ Below w.heap.size w w' := by
 have hR : All w [.kept w w.heap.size] := ⟨⟨Below.refl _ _, Nat.le_refl _⟩, trivial⟩
 have hsl := Lib.hid hs
 have hbb : h < 0 ∨ 6 < h ∨ n < 0 := by
  rcases hb with e | e
  ·by_cases h1 : 0 ≤ h ∧ h ≤ 6
   ·rw [(hOk_iff h).2 h1] at e; cases e
   ·omega
  ·exact .inr (.inr e)
 clear hs hd hb
 go_enter Try.func44, Try.ntmps44
 go_upto_region 1 with (fail)
 refine wp_gen ((((hR.new (l := siCells seed h n) _ 43 rfl rfl).new (l := d.map bv) _ 37 (g := w.heap.size + 1) (by simp) rfl).new (l := siz) _ 43 (g := w.heap.size + 1 + 1) (by simp) rfl).new (l := sgz) _ 60 (g := w.heap.size + 1 + 1 + 1) (by simp) rfl) ?_
 intro W hW
 have c1 := si_at16 hsl.out (hW.at_ 3 rfl)
 have c2 := si_at17 hsl.out (hW.at_ 3 rfl)
 by_cases q1 : h < 0
 ·have d1 : decide (h < 0) = true := by simpa using q1
  clear hbb q1
  go_wp2_with (first | (refine wl_build rfl 43 [] rfl _ _ #[(0, 16), (16, 1), (17, 1)] siz.toArray zero_si Try.underlying43 (fun w => by kernel_rfl) rfl ?_) | (refine wl_build rfl 60 [] rfl _ _ #[(0, 1), (1, 1), (2, 1)] sgz.toArray zero_sg Try.underlying60 (fun w => by kernel_rfl) rfl ?_) | (refine wl_store_at hW 1 rfl 43 (.tmp 4) _ rfl (w.heap.size + 1 + 1) _ _ siz rfl rfl rfl rfl (by kernel_rfl) (by decide) (by simp [Apart, Res.apart, Low.parts, Low.els, Low.rd] <;> omega) ?_; intro w8 hI8 hs8) | (refine wl_store_at hI8 0 rfl 60 (.tmp 5) _ rfl (w.heap.size + 1 + 1 + 1) _ _ sgz rfl rfl rfl rfl (by kernel_rfl) (by decide) (by simp [Apart, Res.apart, Low.parts, Low.els, Low.rd] <;> omega) ?_; intro w9 hI9 hs9))
  refine bodyPost_ret (v := .tuple #[.agg siz.toArray, .agg sgz.toArray, .int .i64 1]) ?_ rfl ⟨rfl, (hI9.at_ 4 rfl).1⟩
  exact results_row_row_tmp (p := 4) (p2 := 5) (q := 6) rfl _ _ (w.heap.size + 1 + 1) 43 siz.toArray (0, 0) _ rfl (hI9.at_ 1 rfl) Try.underlying43 rfl (by kernel_rfl) (w.heap.size + 1 + 1 + 1) 60 sgz.toArray (0, 0) _ rfl (hI9.at_ 0 rfl) Try.underlying60 rfl (by kernel_rfl)
 ·have d1 : decide (h < 0) = false := by simpa using q1
  by_cases q2 : 6 < h
  ·have d2 : decide (6 < h) = true := by simpa using q2
   clear hbb q1 q2
   go_wp2_with (first | (refine wl_build rfl 43 [] rfl _ _ #[(0, 16), (16, 1), (17, 1)] siz.toArray zero_si Try.underlying43 (fun w => by kernel_rfl) rfl ?_) | (refine wl_build rfl 60 [] rfl _ _ #[(0, 1), (1, 1), (2, 1)] sgz.toArray zero_sg Try.underlying60 (fun w => by kernel_rfl) rfl ?_) | (refine wl_store_at hW 1 rfl 43 (.tmp 4) _ rfl (w.heap.size + 1 + 1) _ _ siz rfl rfl rfl rfl (by kernel_rfl) (by decide) (by simp [Apart, Res.apart, Low.parts, Low.els, Low.rd] <;> omega) ?_; intro w8 hI8 hs8) | (refine wl_store_at hI8 0 rfl 60 (.tmp 5) _ rfl (w.heap.size + 1 + 1 + 1) _ _ sgz rfl rfl rfl rfl (by kernel_rfl) (by decide) (by simp [Apart, Res.apart, Low.parts, Low.els, Low.rd] <;> omega) ?_; intro w9 hI9 hs9))
   refine bodyPost_ret (v := .tuple #[.agg siz.toArray, .agg sgz.toArray, .int .i64 1]) ?_ rfl ⟨rfl, (hI9.at_ 4 rfl).1⟩
   exact results_row_row_tmp (p := 4) (p2 := 5) (q := 6) rfl _ _ (w.heap.size + 1 + 1) 43 siz.toArray (0, 0) _ rfl (hI9.at_ 1 rfl) Try.underlying43 rfl (by kernel_rfl) (w.heap.size + 1 + 1 + 1) 60 sgz.toArray (0, 0) _ rfl (hI9.at_ 0 rfl) Try.underlying60 rfl (by kernel_rfl)
  ·have d2 : decide (6 < h) = false := by simpa using q2
   have d3 : decide (n < 0) = true := by simp; omega
   clear hbb q1 q2
   go_wp2_with (first | (refine wl_build rfl 43 [] rfl _ _ #[(0, 16), (16, 1), (17, 1)] siz.toArray zero_si Try.underlying43 (fun w => by kernel_rfl) rfl ?_) | (refine wl_build rfl 60 [] rfl _ _ #[(0, 1), (1, 1), (2, 1)] sgz.toArray zero_sg Try.underlying60 (fun w => by kernel_rfl) rfl ?_) | (refine wl_store_at hW 1 rfl 43 (.tmp 4) _ rfl (w.heap.size + 1 + 1) _ _ siz rfl rfl rfl rfl (by kernel_rfl) (by decide) (by simp [Apart, Res.apart, Low.parts, Low.els, Low.rd] <;> omega) ?_; intro w8 hI8 hs8) | (refine wl_store_at hI8 0 rfl 60 (.tmp 5) _ rfl (w.heap.size + 1 + 1 + 1) _ _ sgz rfl rfl rfl rfl (by kernel_rfl) (by decide) (by simp [Apart, Res.apart, Low.parts, Low.els, Low.rd] <;> omega) ?_; intro w9 hI9 hs9))
   refine bodyPost_ret (v := .tuple #[.agg siz.toArray, .agg sgz.toArray, .int .i64 1]) ?_ rfl ⟨rfl, (hI9.at_ 4 rfl).1⟩
   exact results_row_row_tmp (p := 4) (p2 := 5) (q := 6) rfl _ _ (w.heap.size + 1 + 1) 43 siz.toArray (0, 0) _ rfl (hI9.at_ 1 rfl) Try.underlying43 rfl (by kernel_rfl) (w.heap.size + 1 + 1 + 1) 60 sgz.toArray (0, 0) _ rfl (hI9.at_ 0 rfl) Try.underlying60 rfl (by kernel_rfl)

set_option maxRecDepth 100000 in
set_option maxHeartbeats 3200000 in
theorem refSign_full (w : World) (seed d : List UInt8) (kh kn : Nat) (hs : seed.length = 16) (hd : d.length = 32) (hk : kh ≤ 6) (hb : 2 ^ kh ≤ kn) :
  Calls Try.prog 44 #[.agg (siCells seed kh kn).toArray, .agg (d.map bv).toArray] w fun e w' => e = .returned (.tuple #[.agg siz.toArray, .agg sgz.toArray, .int .i64 13]) ∧ Below w.heap.size w w' := by
 have hR : All w [.kept w w.heap.size] := ⟨⟨Below.refl _ _, Nat.le_refl _⟩, trivial⟩
 have hsl := Lib.hid hs
 have h64 := (pow_le64 kh hk)
 have hx : hOk (kh : Int) = true := by unfold hOk; simp; omega
 have hn : decide ((kn : Int) < 0) = false := by simp
 have p1 : IntKind.i64.wrap (2 ^ kh) = ((2 ^ kh : Nat) : Int) := by rw [IntWalk.i64_in _ (by have := h64.2; have : ((2 ^ kh : Nat) : Int) = 2 ^ kh := (by simp); omega)]; simp
 have p2 : wrap64 (2 ^ kh) = ((2 ^ kh : Nat) : Int) := by have := pow_cast kh hk; simpa using this
 have hg : decide (((2 ^ kh : Nat) : Int) ≤ (kn : Int)) = true := by simp only [decide_eq_true_eq]; omega
 have hg2 : decide ((2 : Int) ^ kh ≤ (kn : Int)) = true := by
  simp only [decide_eq_true_eq]; exact_mod_cast hb
 have hk0 : decide ((kh : Int) < 0) = false := by simp
 have hk6 : decide ((6 : Int) < (kh : Int)) = false := by simp; omega
 have hki : (kh : Int) ≤ 6 := by omega
 clear hs hd hb
 go_enter Try.func44, Try.ntmps44
 go_upto_region 1 with (fail)
 refine wp_gen ((((hR.new (l := siCells seed kh kn) _ 43 rfl rfl).new (l := d.map bv) _ 37 (g := w.heap.size + 1) (by simp) rfl).new (l := siz) _ 43 (g := w.heap.size + 1 + 1) (by simp) rfl).new (l := sgz) _ 60 (g := w.heap.size + 1 + 1 + 1) (by simp) rfl) ?_
 intro W hW
 have c1 := si_at16 hsl.out (hW.at_ 3 rfl)
 have c2 := si_at17 hsl.out (hW.at_ 3 rfl)
 go_wp2_with (first | (refine wl_build rfl 43 [] rfl _ _ #[(0, 16), (16, 1), (17, 1)] siz.toArray zero_si Try.underlying43 (fun w => by kernel_rfl) rfl ?_) | (refine wl_build rfl 60 [] rfl _ _ #[(0, 1), (1, 1), (2, 1)] sgz.toArray zero_sg Try.underlying60 (fun w => by kernel_rfl) rfl ?_) | (refine wl_store_at hW 1 rfl 43 (.tmp 4) _ rfl (w.heap.size + 1 + 1) _ _ siz rfl rfl rfl rfl (by kernel_rfl) (by decide) (by simp [Apart, Res.apart, Low.parts, Low.els, Low.rd] <;> omega) ?_; intro w8 hI8 hs8) | (refine wl_store_at hI8 0 rfl 60 (.tmp 5) _ rfl (w.heap.size + 1 + 1 + 1) _ _ sgz rfl rfl rfl rfl (by kernel_rfl) (by decide) (by simp [Apart, Res.apart, Low.parts, Low.els, Low.rd] <;> omega) ?_; intro w9 hI9 hs9))
 refine bodyPost_ret (v := .tuple #[.agg siz.toArray, .agg sgz.toArray, .int .i64 13]) ?_ rfl ⟨rfl, (hI9.at_ 4 rfl).1⟩
 exact results_row_row_tmp (p := 4) (p2 := 5) (q := 6) rfl _ _ (w.heap.size + 1 + 1) 43 siz.toArray (0, 0) _ rfl (hI9.at_ 1 rfl) Try.underlying43 rfl (by kernel_rfl) (w.heap.size + 1 + 1 + 1) 60 sgz.toArray (0, 0) _ rfl (hI9.at_ 0 rfl) Try.underlying60 rfl (by kernel_rfl)

end Go.Proofs.Ytfakjamocpamiaa
set_option linter.unusedSimpArgs false
set_option linter.unusedVariables false
namespace Go.Adm
open Go Go.RowKit
def seedA : List UInt8 := 1 :: List.replicate 15 0
def digA : List UInt8 := 2 :: List.replicate 31 0
/-- a guarded operation that is met -/
theorem wl_met {P : Program} {ops : Array Oper} {rest : List Oper} {o : Oper} {a : Act} {w : World} {Q : Exit → Act → World → Prop} (hw : Region.wanted o (yielded ops a.tmps) = true)
  (h : ∀ K : Act → World → Prop, (∀ a w, wpList P ops Q rest a w → K a w) → o.wp P a w K Q) : wpList P ops Q (o :: rest) a w :=
 wpList_step fun K hK => by
  rw [if_pos hw]
  exact h K hK
theorem signS_len (seed : List UInt8) (leaf : Int) (d : List UInt8) : (signS seed leaf d).length = 68 := list68_len _
theorem signS_each (seed : List UInt8) (leaf : Int) (d : List UInt8) : ∀ x ∈ signS seed leaf d, x.length = 16 := list68_each _ fun i _ => signF_len seed leaf d i
theorem pathS_each (seed : List UInt8) (kh kn : Nat) (hn : kn < 2 ^ kh) : ∀ x ∈ pathS seed kh kn, x.length = 16 := by
 intro x hx
 obtain ⟨k, hk, rfl⟩ := List.mem_map.1 hx
 exact sibF_len seed kh kn k (by simpa using hk) hn
end Go.Adm
namespace Go.Proofs.Ytfakjamocpamiaa
open Go Go.RowKit Go.Adm

end Go.Proofs.Ytfakjamocpamiaa
set_option linter.unusedSimpArgs false
set_option linter.unusedVariables false
namespace Go.Adm
open Go Go.RowKit
theorem kl_i64 {P : Program} {e : TypeId} (he : P.underlying e = some (.int .i64)) (v : Int) (h0 : -9223372036854775808 ≤ v) (h1 : v ≤ 9223372036854775807) (d : Nat) : P.keyLits (d + 1) e [.int .i64 v] = some [.int .i64 v] := by
 unfold Program.keyLits
 rw [he]
 have hw : (Lit.int .i64 v).wf = true := by
  have h2 : IntKind.i64.min = -9223372036854775808 := rfl
  have h3 : IntKind.i64.max = 9223372036854775807 := rfl
  simp [Lit.wf, h2, h3]; omega
 simp [hw]
/-- what Sign gives: the signer, the leaf, the chain, the path, the error -/
structure SgnR where
 si : List Value
 leaf : Int
 chain : List (List UInt8)
 path : List (List UInt8)
 err : Int
def signR (seed d : List UInt8) (h n : Int) : SgnR :=
 if hOk h = false ∨ n < 0 then ⟨siz, 0, [], [], 1⟩
 else if 2 ^ h.toNat ≤ n.toNat then ⟨siz, 0, [], [], 13⟩
 else ⟨siCells seed h (n + 1), n, signS seed n d, pathS seed h.toNat n.toNat, 0⟩
def SgnPost (R : SgnR) (w : World) (e : Ending) (w' : World) : Prop :=
 ∃ Ac cc Ap cp, e = .returned (.tuple #[.agg R.si.toArray, .agg (sgCells R.leaf Ac R.chain.length cc Ap R.path.length cp).toArray, .int .i64 R.err]) ∧
  Els w' w'.heap.size 16 Ac R.chain.length (hvs R.chain) ∧ Els w' w'.heap.size 16 Ap R.path.length (hvs R.path) ∧ Below w.heap.size w w'
theorem SgnPost.none (si : List Value) (err : Int) {w w' : World} {e : Ending} (he : e = .returned (.tuple #[.agg si.toArray, .agg sgz.toArray, .int .i64 err])) (hb : Below w.heap.size w w') : SgnPost ⟨si, 0, [], [], err⟩ w e w' :=
 ⟨Option.none, 0, Option.none, 0, he, Els.nil, Els.nil, hb⟩
theorem SgnPost.made {seed d : List UInt8} {kh kn : Nat} {tid : TypeId} {w w' : World} {e : Ending} (h : SignOk seed d kh kn tid w e w') (hn : kn < 2 ^ kh) : SgnPost ⟨siCells seed kh ((kn : Int) + 1), kn, signS seed kn d, pathS seed kh kn, 0⟩ w e w' := by
 obtain ⟨Ac, cc, Ap, cp, B, rfl, h1, h2, h3, h4, h5, h6⟩ := h
 refine ⟨Ac, cc, Ap, cp, ?_, ?_, ?_, h6⟩
 ·show _ = Ending.returned (.tuple #[_, .agg (sgCells _ Ac (signS seed kn d).length cc Ap (pathS seed kh kn).length cp).toArray, _])
  rw [signS_len, pathS_len]
 ·show Els w' w'.heap.size 16 Ac (signS seed kn d).length _
  rw [signS_len]
  exact Els.of h3 (hvs_each (signS_each _ _ _)) (by rw [hvs_len, signS_len])
 ·show Els w' w'.heap.size 16 Ap (pathS seed kh kn).length _
  rw [pathS_len]
  exact Els.of h5 (hvs_each (pathS_each seed kh kn hn)) (by rw [hvs_len, pathS_len])
structure SgnOk (R : SgnR) : Prop where
 si : ∃ s h n, R.si = siCells s h n ∧ s.length = 16 ∧ (0 ≤ h ∧ h ≤ 6) ∧ 0 ≤ n ∧ n ≤ 64
 chain : ∀ x ∈ R.chain, x.length = 16
 path : ∀ x ∈ R.path, x.length = 16
 nc : R.chain.length ≤ 68
 np : R.path.length ≤ 6
theorem signR_ok (seed d : List UInt8) (h n : Int) (hs : seed.length = 16) : SgnOk (signR seed d h n) := by
 have hz : ∃ (s : List UInt8) (h n : Int), siz = siCells s h n ∧ s.length = 16 ∧ (0 ≤ h ∧ h ≤ 6) ∧ 0 ≤ n ∧ n ≤ 64 := ⟨List.replicate 16 0, 0, 0, rfl, rfl, by decide, by decide, by decide⟩
 unfold signR
 split
 ·exact ⟨hz, by simp, by simp, by simp, by simp⟩
 ·rename_i h1
  split
  ·exact ⟨hz, by simp, by simp, by simp, by simp⟩
  ·rename_i h2
   have h3 : hOk h = true := by cases hq : hOk h <;> simp_all
   obtain ⟨h4, h5⟩ := (hOk_iff h).1 h3
   have h6 : ¬ n < 0 := fun e => h1 (.inr e)
   have h7 := (pow_le64 h.toNat (by omega)).2
   exact ⟨⟨seed, h, n + 1, rfl, hs, ⟨h4, h5⟩, by omega, by omega⟩, signS_each _ _ _, pathS_each _ _ _ (by omega), by rw [signS_len]; omega, by rw [pathS_len]; omega⟩
end Go.Adm
namespace Go.Proofs.Ytfakjamocpamiaa
open Go Go.RowKit Go.Adm

theorem kl_pk (h : Int) (r : List UInt8) (hr : r.length = 16) (h0 : 0 ≤ h) (h1 : h ≤ 6) : Try.prog.keyLits 3 62 (pkCells h r) = some (.int .i64 h :: r.map bl) := by
 have e1 : (pkCells h r).take 1 = [.int .i64 h] := by simp [pkCells]
 have e2 : (pkCells h r).tail.take 16 = r.map bv := by rw [pkCells, List.tail_cons, List.take_of_length_le (by simp [hr])]
 have k1 := kl_bytes (P := Try.prog) Try.underlying41 Try.underlying5 (by kernel_rfl) (by kernel_rfl) r hr
 have k2 := kl_i64 (P := Try.prog) Try.underlying3 h (by omega) (by omega) 1
 have c1 : Try.prog.cellsOf 62 = 17 := by kernel_rfl
 have c2 : Try.prog.cellsOf 41 = 16 := by kernel_rfl
 have c3 : Try.prog.cellsOf 3 = 1 := by kernel_rfl
 unfold Program.keyLits
 rw [Try.underlying62]
 simp [pk_len h r hr, c1, c2, c3, List.mapM_cons, e1, e2, k1, k2]
theorem fm_pk (h : Int) (r : List UInt8) (hr : r.length = 16) : (Value.agg (pkCells h r).toArray).formed Try.prog 62 = true := by
 have hl := pk_len h r hr
 generalize pkCells h r = l at *
 have hc : Try.prog.cellsOf 62 = 17 := by kernel_rfl
 simp [Value.formed, Try.underlying62, hl, hc]
theorem eq_pk (w : World) (h : Int) (r : List UInt8) (hr : r.length = 16) (h0 : 0 ≤ h) (h1 : h ≤ 6) : (binOp .eql 62 (.agg (pkCells h r).toArray) (.agg (pkCells h r).toArray)).run Try.prog w = .ok (.bool true) w :=
 run_eq_deep w 3 62 (by decide) (by kernel_rfl) (fm_pk h r hr) (fm_pk h r hr) (kl_pk h r hr h0 h1) (kl_pk h r hr h0 h1) _ (by simp)
end Go.Proofs.Ytfakjamocpamiaa
set_option linter.unusedSimpArgs false
set_option linter.unusedVariables false
namespace Go.Adm
open Go Go.RowKit

section
variable (P : Program) (l : List Oper) (D : List Nat) (a0 : Act) (I : World → Prop) (Φ : Nat → Value → World → Prop)
/-- One operation that may come late: it yields one value in whatever world. -/
def Flt (k : Nat) (o : Oper) : Prop :=
 ∀ (a : Act) (w : World), I w → (∀ t, D.contains t = false → a.tmps[t]?.getD undef = a0.tmps[t]?.getD undef) →
  (∀ e ∈ o.after.toList, Region.binds .any e = true → Φ e.on (a.tmps[D.getD e.on 0]?.getD undef) w) → ∃ v, Yields P l.toArray o v a ∧ Φ k v w
def Flts : Nat → List Oper → Prop
 | _, [] => True
 | k, o :: os => Flt P l D a0 I Φ k o ∧ Flts (k + 1) os
theorem Flts.at_ : ∀ {os : List Oper} {k i : Nat} {o : Oper}, Flts P l D a0 I Φ k os → os[i]? = some o → Flt P l D a0 I Φ (k + i) o
 | [], _, i, _, _, hi => by simp at hi
 | x :: os, k, 0, o, h, hi => by
  obtain rfl : x = o := by simpa using hi
  exact h.1
 | x :: os, k, i + 1, o, h, hi => by
  have := Flts.at_ (k := k + 1) (i := i) h.2 (by simpa using hi)
  rwa [show k + 1 + i = k + (i + 1) from by omega] at this
end
/-- each operation behind the head awaits all of the head but p ≤ i < q -/
def coreB (l : List Oper) (n p q : Nat) : Bool := (l.drop n).all fun o => (List.range n).all fun i => (decide (p ≤ i) && decide (i < q)) || o.after.any fun e => Region.binds .any e && e.on == i
/-- an operation of p ≤ i < q may come ahead of whatever else may still be open -/
def lateB (l : List Oper) (n p q : Nat) : Bool := ((l.zipIdx.take q).drop p).all fun (oi, i) => l.zipIdx.all fun (oj, j) => j == i || (decide (j < n) && !(decide (p ≤ j) && decide (j < q))) || oj.after.any (fun e => Region.binds .any e && e.on == i) || oi.apart l.toArray oj

theorem wp_region_late {P : Program} {id : Nat} {Q : Exit → Act → World → Prop} {a0 : Act} {w0 : World} {l : List Oper} (n p q : Nat) (D : List Nat) (I : World → Prop) (Φ : Nat → Value → World → Prop)
  (hm : P.follows .mixedOrders = true)
  (hB : (Region.noSelect l.toArray && decide (n < l.length) && decide (q ≤ n) && coreB l n p q && lateB l n p q && backB l n && dstB D l n && decide (D.Nodup) && Region.seqB .any l.toArray (l.length - n) n (Array.replicate n true ++ Array.replicate (l.length - n) false)) = true)
  (hQ : ∀ c t v a w, Q (.panic c) (a.put t v) w → Q (.panic c) a w)
  (hI : ∀ w w' : World, w.grownBy w' none → I w → I w') (hΦ : ∀ (k : Nat) (v : Value) (w w' : World), w.grownBy w' none → Φ k v w → Φ k v w') (hI0 : I w0.drew) (hDs : D.all (fun t => decide (t < a0.tmps.size)) = true)
  (hop : Hops P Q D a0 I Φ 0 (l.take n)) (hfl : Flts P l D a0 I Φ p ((l.drop p).take (q - p)))
  (hfin : ∀ (vs : Nat → Value) (w : World), I w → (∀ k, k < n → Φ k (vs k) w) → wpList P l.toArray Q (l.drop n) (putAll vs D 0 a0) w) : (Code.region id l.toArray true).wp P Q a0 w0 := by
 simp only [Bool.and_eq_true, decide_eq_true_eq] at hB
 obtain ⟨⟨⟨⟨⟨⟨⟨⟨hsel, hn⟩, hqn⟩, hcore⟩, hlate⟩, hback⟩, hdst⟩, hD⟩, hseq⟩ := hB
 have hdst' : (l.take n).map (·.dst) = D.map some := by simpa [dstB] using hdst
 have hDl : D.length = n := by have := congrArg List.length hdst'; simp at this; omega
 have hdsti : ∀ i o, i < n → l[i]? = some o → ∃ t, D[i]? = some t ∧ o.dst = some t := fun i o hi ho => by
  have h1 := congrArg (fun x : List (Option Tmp) => x[i]?) hdst'
  simp only [List.getElem?_map, List.getElem?_take, if_pos hi, ho, Option.map_some] at h1
  have hlt : i < D.length := by omega
  rw [List.getElem?_eq_getElem hlt] at h1 ⊢
  exact ⟨_, rfl, by simpa using h1⟩
 have hbacki : ∀ i o, i < n → l[i]? = some o → (∀ g b, o.guard = some (g, b) → g < i ∧ ∃ e ∈ o.after, Region.binds .any e = true ∧ e.on = g) ∧ ∀ e ∈ o.after, Region.binds .any e = true → e.on < i := fun i o hi ho => by
  have h1 := List.all_eq_true.1 hback (o, i) (by
   rw [List.mem_iff_getElem?]
   refine ⟨i, ?_⟩
   rw [List.getElem?_zipIdx, List.getElem?_take, if_pos hi, ho]
   simp)
  simp only [Bool.and_eq_true] at h1
  refine ⟨fun g b hg => ?_, fun e he hb => ?_⟩
  ·have h2 := h1.1
   rw [hg] at h2
   simp only [Bool.and_eq_true, decide_eq_true_eq] at h2
   obtain ⟨e, he, hb⟩ := Array.any_eq_true'.1 h2.2
   simp only [Bool.and_eq_true, beq_iff_eq] at hb
   exact ⟨h2.1, e, he, hb.1, hb.2⟩
  have h2 := Array.all_eq_true_iff_forall_mem.1 h1.2 e he
  simpa [hb] using h2
 have hcorei : ∀ j o, n ≤ j → l[j]? = some o → ∀ i, i < n → ¬ (p ≤ i ∧ i < q) → ∃ e ∈ o.after, Region.binds .any e = true ∧ e.on = i := fun j o hj ho i hi hpq => by
  have h1 := List.all_eq_true.1 hcore o (List.mem_of_getElem? (i := j - n) (by rw [List.getElem?_drop, show n + (j - n) = j from by omega]; exact ho))
  have h2 := List.all_eq_true.1 h1 i (List.mem_range.2 hi)
  rw [Bool.or_eq_true, Bool.and_eq_true, decide_eq_true_eq, decide_eq_true_eq] at h2
  rcases h2 with h2 | h2
  ·exact absurd h2 hpq
  ·obtain ⟨e, he, hb⟩ := Array.any_eq_true'.1 h2
   simp only [Bool.and_eq_true, beq_iff_eq] at hb
   exact ⟨e, he, hb.1, hb.2⟩
 have hlatei : ∀ i oi, p ≤ i → i < q → l[i]? = some oi → ∀ j oj, l[j]? = some oj → j ≠ i → ¬ (j < n ∧ ¬ (p ≤ j ∧ j < q)) → (∀ e ∈ oj.after, Region.binds .any e = true → e.on ≠ i) → oi.apart l.toArray oj = true := fun i oi hpi hqi hoi j oj hoj hne hcj hno => by
  have h1 := List.all_eq_true.1 hlate (oi, i) (List.mem_of_getElem? (i := i - p) (by rw [List.getElem?_drop, show p + (i - p) = i from by omega, List.getElem?_take, if_pos hqi, List.getElem?_zipIdx, hoi]; simp))
  have h2 := List.all_eq_true.1 h1 (oj, j) (List.mem_of_getElem? (i := j) (by rw [List.getElem?_zipIdx, hoj]; simp))
  simp only [Bool.or_eq_true, beq_iff_eq, Bool.and_eq_true, decide_eq_true_eq, Bool.not_eq_true', Bool.and_eq_false_iff, decide_eq_false_iff_not] at h2
  rcases h2 with ((h2 | h2) | h2) | h2
  ·exact absurd h2 hne
  ·exact absurd ⟨h2.1, fun h => by rcases h2.2 with h3 | h3 <;> omega⟩ hcj
  ·obtain ⟨e, he, hb⟩ := Array.any_eq_true'.1 h2
   simp only [Bool.and_eq_true, beq_iff_eq] at hb
   exact absurd hb.2 (hno e he hb.1)
  ·exact h2
 have key : ∀ (f : Nat) (S : List Nat) (listed : Array Bool) (a : Act) (w : World) (vs : Nat → Value), S.length = f → S.Nodup → (∀ i, i ∈ S ↔ i < n ∧ listed.getD i true = false) →
   HeadInv .any l.toArray n listed → Mid D a0 a vs listed → I w → (∀ k, k < n → listed.getD k false = true → Φ k (vs k) w) → wpAny P .any l.toArray Q (f + (l.length - n)) listed a w := by
  intro f
  induction f with
  | zero =>
   intro S listed a w vs hS _ hmem inv mid hIw hP
   obtain rfl := List.eq_nil_of_length_eq_zero hS
   have hsz : listed.size = l.length := by rw [inv.size]; simp
   have hall : ∀ k, k < n → listed.getD k false = true := fun k hk => by
    cases h : listed.getD k false with
    | true => rfl
    | false => exact absurd ((hmem k).2 ⟨hk, getD_in (by omega) h⟩) (by simp)
   have hlist : listed = Array.replicate n true ++ Array.replicate (l.length - n) false := by
    apply Array.ext
    ·simp; omega
    ·intro k h1 h2
     by_cases hk : k < n
     ·have := hall k hk
      rw [Array.getElem_append_left (by simpa using hk)]
      simp [h1] at this
      simp [this]
     ·have := inv.tail k (by omega) (by simpa using (by omega : k < l.length))
      rw [Array.getElem_append_right (by simpa using hk)]
      simp [h1] at this
      simp [this]
   rw [Nat.zero_add]
   have hd := mid.done hD (fun k hk => hall k (by omega))
   subst hd
   have hx := hfin vs w hIw (fun k hk => hP k hk (hall k hk))
   have := wpAny_of_seq (md := .any) (Q' := Q) (l.drop n) n listed _ w (fun j => by simp [List.getElem?_drop]) (by rw [List.length_drop, hlist]; exact hseq) hx
   rwa [List.length_drop] at this
  | succ f ih =>
   intro S listed a w vs hS hnd hmem inv mid hIw hP
   have hsz : listed.size = l.length := by rw [inv.size]; simp
   rw [show f + 1 + (l.length - n) = f + (l.length - n) + 1 from by omega]
   have hex : ∃ i, i < n ∧ listed.getD i true = false := by
    cases S with
    | nil => simp at hS
    | cons i S => exact ⟨i, (hmem i).1 (List.mem_cons_self ..)⟩
   -- the least one that is not yet over is ready
   have hleast : ∃ i, i < n ∧ listed.getD i true = false ∧ i ∈ Region.ready .any l.toArray listed := by
    have least : ∀ m, (∃ i, i < m ∧ i < n ∧ listed.getD i true = false) → ∃ i, i < n ∧ listed.getD i true = false ∧ ∀ j, j < i → listed.getD j false = true := by
     intro m
     induction m with
     | zero => rintro ⟨i, h, _⟩; omega
     | succ m ihm =>
      rintro ⟨i, h1, h2, h3⟩
      by_cases hq : ∃ i, i < m ∧ i < n ∧ listed.getD i true = false
      ·exact ihm hq
      ·have : i = m := by
        rcases Nat.lt_succ_iff_lt_or_eq.1 h1 with h4 | h4
        ·exact absurd ⟨i, h4, h2, h3⟩ hq
        ·exact h4
       subst this
       refine ⟨i, h2, h3, fun j hj => ?_⟩
       cases h : listed.getD j false with
       | true => rfl
       | false => exact absurd ⟨j, hj, by omega, getD_in (by omega) h⟩ hq
    obtain ⟨i0, h1, h2⟩ := hex
    obtain ⟨i, hin, hun, hlow⟩ := least n ⟨i0, h1, h1, h2⟩
    have hlt : i < l.length := by omega
    have ho : l[i]? = some l[i] := List.getElem?_eq_getElem hlt
    exact ⟨i, hin, hun, mem_ready.2 ⟨hun, l[i], by simp, fun e he hb => hlow _ ((hbacki i _ hin ho).2 e he hb)⟩⟩
   have cont : ∀ i, i < n → i ∈ Region.ready .any l.toArray listed → ∀ t, D[i]? = some t → ∀ v w', w.grownBy w' none → Φ i v w' → wpAny P .any l.toArray Q (f + (l.length - n)) (listed.setIfInBounds i true) (a.put (some t) v) w' := fun i hin hi t ht v w' hgr hv => by
    obtain ⟨hun, _, _, _⟩ := mem_ready.1 hi
    refine ih (S.erase i) _ _ w' (fun k => if k = i then v else vs k) (by rw [List.length_erase_of_mem ((hmem i).2 ⟨hin, hun⟩)]; omega) (hnd.erase i) (fun j => ?_) (inv.set hi hin) (mid.step hD ht (by omega) v) (hI _ _ hgr hIw) (fun k hk hl => ?_)
    ·rw [hnd.mem_erase_iff, hmem j]
     constructor
     ·rintro ⟨h6, h7, h8⟩
      exact ⟨h7, by rw [getD_set_ne true (fun e => h6 e.symm)]; exact h8⟩
     ·rintro ⟨h7, h8⟩
      by_cases hji : j = i
      ·subst hji; simp [show j < listed.size from by omega] at h8
      ·exact ⟨hji, h7, by rw [getD_set_ne true (fun e => hji e.symm)] at h8; exact h8⟩
    ·by_cases hki : k = i
     ·subst hki; rw [if_pos rfl]; exact hv
     ·rw [if_neg hki]
      rw [getD_set_ne false (fun e => hki e.symm)] at hl
      exact hΦ _ _ _ _ hgr (hP k hk hl)
   have slot : ∀ i, i < n → i ∈ Region.ready .any l.toArray listed → ∀ o, l[i]? = some o → ∀ e ∈ o.after, Region.binds .any e = true → ∃ s v, D[e.on]? = some s ∧ a.tmps[s]? = some v ∧ Φ e.on v w := fun i hin hi o ho' e he hb => by
    obtain ⟨_, o2, ho, hall⟩ := mem_ready.1 hi
    have ho2 : l[i]? = some o2 := by simpa using ho
    rw [ho'] at ho2
    obtain rfl := Option.some.inj ho2
    have h3 := hall e he hb
    have hlt : e.on < n := Nat.lt_trans ((hbacki i o hin ho').2 e he hb) hin
    obtain ⟨s, hs⟩ : ∃ s, D[e.on]? = some s := ⟨_, List.getElem?_eq_getElem (by omega)⟩
    have h4 := mid.new e.on s hs
    rw [h3, if_pos rfl, if_pos (of_decide_eq_true (List.all_eq_true.1 hDs s (List.mem_of_getElem? hs)))] at h4
    exact ⟨s, _, hs, h4, hP _ hlt h3⟩
   have facts : ∀ i, i < n → i ∈ Region.ready .any l.toArray listed → ∀ o, l[i]? = some o → (∀ t, D.contains t = false → a.tmps[t]?.getD undef = a0.tmps[t]?.getD undef) ∧
     (∀ e ∈ o.after.toList, Region.binds .any e = true → Φ e.on (a.tmps[D.getD e.on 0]?.getD undef) w) := fun i hin hi o ho' =>
    ⟨fun s hs => by rw [mid.old s hs], fun e he hb => by
     obtain ⟨s, v, hs, hv, hp⟩ := slot i hin hi o ho' e (by simpa using he) hb
     have h5 : D.getD e.on 0 = s := by simp [List.getD, hs]
     rw [h5, hv]
     exact hp⟩
   by_cases hc : ∃ i, i < n ∧ ¬ (p ≤ i ∧ i < q) ∧ listed.getD i true = false
   ·obtain ⟨i1, hi1, hpq1, hun1⟩ := hc
    refine ⟨fun h0 => ?_, fun i hi => ?_⟩
    ·obtain ⟨i, _, _, h⟩ := hleast
     rw [h0] at h
     cases h
    ·have hin : i < n := by
      rcases Nat.lt_or_ge i n with h | h
      ·exact h
      ·obtain ⟨_, o, ho, hall⟩ := mem_ready.1 hi
       obtain ⟨e, he, hb, hon⟩ := hcorei i o h (by simpa using ho) i1 hi1 hpq1
       have h3 := hall e he hb
       rw [hon] at h3
       rw [getD_both hun1] at h3
       cases h3
     obtain ⟨hun, o, ho, hall⟩ := mem_ready.1 hi
     have ho' : l[i]? = some o := by simpa using ho
     obtain ⟨t, ht, hdt⟩ := hdsti i o hin ho'
     obtain ⟨hg, hbk⟩ := hbacki i o hin ho'
     obtain ⟨hold, haft⟩ := facts i hin hi o ho'
     have met : Hop P Q D a0 I Φ i o → o.wp P a w (wpAny P .any l.toArray Q (f + (l.length - n)) (listed.setIfInBounds i true)) Q := fun hh => by
      refine hh a w hIw hold haft _ (fun v w' hgr hv => ?_)
      rw [hdt]; exact cont i hin hi t ht v w' hgr hv
     have hh := Hops.at_ P Q D a0 I Φ (k := 0) hop (i := i) (o := o) (by rw [List.getElem?_take, if_pos hin, ho'])
     rw [Nat.zero_add] at hh
     unfold wpOp
     simp only [ho]
     cases hgd : o.guard with
     | none =>
      rw [if_pos (by simp [Region.wanted, hgd])]
      unfold HopG at hh
      rw [hgd] at hh
      exact .inl (met hh)
     | some gb =>
      obtain ⟨g, b⟩ := gb
      obtain ⟨hgi, e, he, hb, heg⟩ := hg g b hgd
      obtain ⟨s, v, hs, hv, hp⟩ := slot i hin hi o ho' e he hb
      rw [heg] at hs hp
      have hgl : g < l.length := by omega
      obtain ⟨s', hs', hds'⟩ := hdsti g l[g] (by omega) (List.getElem?_eq_getElem hgl)
      rw [hs] at hs'
      obtain rfl := Option.some.inj hs'
      have hy : ∀ c, v = .bool c → yielded l.toArray a.tmps g = some c := fun c hc => by
       unfold yielded
       have h6 : l.toArray[g]? = some l[g] := by simp [hgl]
       rw [h6]
       simp only [Option.bind_some, hds', hv, hc]
      unfold HopG at hh
      rw [hgd] at hh
      rcases hh with ⟨h7, h8⟩ | ⟨h7, h8⟩
      ·rw [if_pos (by simp [Region.wanted, hgd, hy b (h7 v w hp)])]
       exact .inl (met h8)
      ·rw [if_neg (by simp [Region.wanted, hgd, hy _ (h7 v w hp)])]
       rw [hdt]
       exact cont i hin hi t ht undef w (World.grownBy.refl w none) (h8 w)
   ·obtain ⟨i, hin, hun, hi⟩ := hleast
    have hpq : p ≤ i ∧ i < q := Decidable.byContradiction fun h => hc ⟨i, hin, h, hun⟩
    have hlt : i < l.length := by omega
    have ho' : l[i]? = some l[i] := List.getElem?_eq_getElem hlt
    obtain ⟨t, ht, hdt⟩ := hdsti i l[i] hin ho'
    obtain ⟨hold, haft⟩ := facts i hin hi _ ho'
    have hfl' := Flts.at_ P l D a0 I Φ hfl (i := i - p) (o := l[i]) (by rw [List.getElem?_take, if_pos (by omega), List.getElem?_drop, show p + (i - p) = i from by omega]; exact ho')
    rw [show p + (i - p) = i from by omega] at hfl'
    obtain ⟨v, hy, hv⟩ := hfl' a w hIw hold haft
    refine wpAny_first (ops := l.toArray) (i := i) (oi := l[i]) (v := v) (by simp [hlt]) (Region.noSelect_spec hsel) (fun c a w h => hQ c _ v a w h) _ listed a w (fun j oj hj hne hunj hno => ?_) hi hy ?_
    ·refine hlatei i l[i] hpq.1 hpq.2 ho' j oj (by simpa using hj) hne (fun h => hc ⟨j, h.1, h.2, hunj⟩) hno
    ·rw [hdt]
     exact cont i hin hi t ht v w (World.grownBy.refl w none) hv
 refine wp_region_any hm ?_
 have hx := key n (List.range n) (Array.replicate l.length false) a0 w0.drew (fun _ => undef) (by simp) List.nodup_range (fun i => by
  rw [List.mem_range]
  constructor
  ·intro h; exact ⟨h, getD_in (by simp; omega) (getD_replicate_false _ _)⟩
  ·exact fun h => h.1) ⟨by simp, fun j oj _ hl => (by rw [getD_replicate_false] at hl; cases hl), fun t _ ht => getD_in (by simp only [Array.size_replicate, List.size_toArray] at ht ⊢; exact ht) (getD_replicate_false _ _)⟩ (Mid.start _ _ _ _) hI0 (fun k _ hl => by rw [getD_replicate_false] at hl; cases hl)
 rw [show n + (l.length - n) = l.length from by omega] at hx
 simpa using hx
theorem wp_region_hops_late {P : Program} {id : Nat} {Q : Exit → Act → World → Prop} {a0 : Act} {w0 : World} {l : List Oper} (n p q : Nat) (D : List Nat) (rs : List Res) (fs : List VF)
  (hm : P.follows .mixedOrders = true)
  (hB : (Region.noSelect l.toArray && decide (n < l.length) && decide (q ≤ n) && coreB l n p q && lateB l n p q && backB l n && dstB D l n && decide (D.Nodup) && Region.seqB .any l.toArray (l.length - n) n (Array.replicate n true ++ Array.replicate (l.length - n) false)) = true)
  (hQ : ∀ c t v a w, Q (.panic c) (a.put t v) w → Q (.panic c) a w)
  (hR : All w0 rs) (hDs : D.all (fun t => decide (t < a0.tmps.size)) = true)
  (hop : Hops P Q D a0 (fun W => All W rs) (VF.at fs) 0 (l.take n)) (hfl : Flts P l D a0 (fun W => All W rs) (VF.at fs) p ((l.drop p).take (q - p)))
  (hfin : ∀ (vs : Nat → Value) (w : World), All w rs → (∀ k, k < n → VF.at fs k (vs k) w) → wpList P l.toArray Q (l.drop n) (putAll vs D 0 a0) w) : (Code.region id l.toArray true).wp P Q a0 w0 :=
 wp_region_late n p q D (fun W => All W rs) (VF.at fs) hm hB hQ (fun _ _ hg h => h.quiet hg) (fun _ _ _ _ hg h => VF.keep hg _ h) hR.drew hDs hop hfl hfin
end Go.Adm
set_option linter.unusedSimpArgs false
set_option linter.unusedVariables false
namespace Go.Adm
open Go Go.RowKit
def SgnOwn (R : SgnR) (tid : TypeId) (w : World) (e : Ending) (w' : World) : Prop :=
 ∃ Ac cc Ap cp, e = .returned (.tuple #[.agg R.si.toArray, .agg (sgCells R.leaf Ac R.chain.length cc Ap R.path.length cp).toArray, .int .i64 R.err]) ∧
  Own w' w.heap.size tid 16 Ac R.chain.length cc (hvs R.chain).flatten ∧ Own w' w.heap.size tid 16 Ap R.path.length cp (hvs R.path).flatten ∧
  (∀ b, (Value.slice Ac R.chain.length cc).ownBlock = some b → (Value.slice Ap R.path.length cp).ownBlock ≠ some b) ∧ Below w.heap.size w w'
theorem SgnOwn.none (si : List Value) (err : Int) {tid : TypeId} {w w' : World} {e : Ending} (he : e = .returned (.tuple #[.agg si.toArray, .agg sgz.toArray, .int .i64 err])) (hb : Below w.heap.size w w') : SgnOwn ⟨si, 0, [], [], err⟩ tid w e w' :=
 ⟨Option.none, 0, Option.none, 0, he, Own.nil _ _ _ _, Own.nil _ _ _ _, fun _ h => (by cases h), hb⟩
theorem SgnOwn.made {seed d : List UInt8} {kh kn : Nat} {tid : TypeId} {w w' : World} {e : Ending} (h : SignOk seed d kh kn tid w e w') : SgnOwn ⟨siCells seed kh ((kn : Int) + 1), kn, signS seed kn d, pathS seed kh kn, 0⟩ tid w e w' := by
 obtain ⟨Ac, cc, Ap, cp, B, rfl, h1, h2, h3, h4, h5, h6⟩ := h
 refine ⟨Ac, cc, Ap, cp, ?_, ?_, ?_, ?_, h6⟩
 ·show _ = Ending.returned (.tuple #[_, .agg (sgCells _ Ac (signS seed kn d).length cc Ap (pathS seed kh kn).length cp).toArray, _])
  rw [signS_len, pathS_len]
 ·show Own w' w.heap.size tid 16 Ac (signS seed kn d).length cc _
  rw [signS_len]
  exact h3
 ·show Own w' w.heap.size tid 16 Ap (pathS seed kh kn).length cp _
  rw [pathS_len]
  exact h5.less h1
 ·intro b hb e
  have hb' : (Value.slice Ac 68 cc).ownBlock = some b := hb
  have := h4 b hb'
  have e' : (Value.slice Ap kh cp).ownBlock = some b := by cases Ap <;> exact e
  have := (h5.lt e').1
  omega
/-- what Sign gives, as the value of an operation: the three; the signature alone -/
def VF.sgn (base : Nat) (tid : TypeId) (R : SgnR) : VF := .gen (fun w v => base ≤ w.heap.size ∧ ∃ Ac cc Ap cp, v = .tuple #[.agg R.si.toArray, .agg (sgCells R.leaf Ac R.chain.length cc Ap R.path.length cp).toArray, .int .i64 R.err] ∧
  Own w base tid 16 Ac R.chain.length cc (hvs R.chain).flatten ∧ Own w base tid 16 Ap R.path.length cp (hvs R.path).flatten ∧ ∀ b, (Value.slice Ac R.chain.length cc).ownBlock = some b → (Value.slice Ap R.path.length cp).ownBlock ≠ some b)
 fun _ _ _ hg ⟨hb, Ac, cc, Ap, cp, hv, h1, h2, h3⟩ =>
  ⟨Nat.le_trans hb hg.size, Ac, cc, Ap, cp, hv, Res.step (r := .own base tid 16 Ac _ cc _) hg h1 (Res.apart_none _), Res.step (r := .own base tid 16 Ap _ cp _) hg h2 (Res.apart_none _), h3⟩
def VF.sgc (base : Nat) (tid : TypeId) (R : SgnR) : VF := .gen (fun w v => base ≤ w.heap.size ∧ ∃ Ac cc Ap cp, v = .agg (sgCells R.leaf Ac R.chain.length cc Ap R.path.length cp).toArray ∧
  Own w base tid 16 Ac R.chain.length cc (hvs R.chain).flatten ∧ Own w base tid 16 Ap R.path.length cp (hvs R.path).flatten ∧ ∀ b, (Value.slice Ac R.chain.length cc).ownBlock = some b → (Value.slice Ap R.path.length cp).ownBlock ≠ some b)
 fun _ _ _ hg ⟨hb, Ac, cc, Ap, cp, hv, h1, h2, h3⟩ =>
  ⟨Nat.le_trans hb hg.size, Ac, cc, Ap, cp, hv, Res.step (r := .own base tid 16 Ac _ cc _) hg h1 (Res.apart_none _), Res.step (r := .own base tid 16 Ap _ cp _) hg h2 (Res.apart_none _), h3⟩
theorem Els.row {w : World} {B n size : Nat} {A : Option Addr} {hs : List (List UInt8)} (h : Els w B size A n (hvs hs)) {k : Nat} (hk : k < hs.length) :
  ∃ ad, A = some ad ∧ ad.block < B ∧ ∀ j u, (hs[k].map bv)[j]? = some u → w.cell? ((ad.add (k * size)).add j) = some u := by
 obtain ⟨ad, e, hb, hc⟩ := h.at_ (k := k) (by rw [hvs_len]; exact hk)
 rw [hvs_at hs hk] at hc
 exact ⟨ad, e, hb, hc⟩
theorem signR_make (seed d : List UInt8) (kh kn : Nat) (hk : kh ≤ 6) (hn : kn < 2 ^ kh) : signR seed d kh kn = ⟨siCells seed kh ((kn : Int) + 1), kn, signS seed kn d, pathS seed kh kn, 0⟩ := by
 have h1 : hOk (kh : Int) = true := (hOk_iff _).2 ⟨by omega, by omega⟩
 unfold signR
 rw [if_neg (by simp [h1]), if_neg (by simp only [Int.toNat_natCast]; omega)]
 simp only [Int.toNat_natCast]
theorem Cells.ne {w : World} {g g' : Nat} {t t' : TypeId} {cs cs' : List Value} (h : Cells w g t cs) (h' : Cells w g' t' cs') (ht : t ≠ t') : g ≠ g' := fun e => by
 subst e
 have h1 : some (Obj.cells cs.toArray t (0, 0)) = some (.cells cs'.toArray t' (0, 0)) := h.symm.trans h'
 injection h1 with h1
 injection h1 with _ h2
 exact ht h2
theorem wp_bld {P : Program} {o : Oper} {a : Act} {w : World} {K : Act → World → Prop} {Q : Exit → Act → World → Prop} (t : TypeId) (parts : List (Nat × Operand)) (ho : o.op = .build t parts.toArray)
  (fields : Array Field) (z : Value) (places : Array (Nat × Nat)) (cells : Array Value)
  (hz : ∀ w, (zeroValue t).run P w = .ok z w) (hu : P.underlying t = some (.struct fields)) (hp : ∀ w, (placesOf fields).run P w = .ok places w)
  (hf : Instr.fill (places[·]?) z.cells (parts.map fun x => (x.1, a.eval x.2)) = some cells)
  (h : K (a.put o.dst (.agg cells)) w) : o.wp P a w K Q := by
 have hf' : Instr.fill (places[·]?) z.cells ((parts.toArray.map fun (i, x) => (i, a.eval x)).toList) = some cells := by
  rw [Array.toList_map]; exact hf
 unfold Oper.wp execOp
 simp only [ho, Sem.run_bind, run_build_struct w t fields z places _ cells (hz w) hu (hp w) hf', Result.andThen_ok]
 exact h
theorem fill_si0 (seed : List UInt8) (h : Int) (hs : seed.length = 16) : Instr.fill (#[(0, 16), (16, 1), (17, 1)][·]?) siz.toArray [(0, .agg (seed.map bv).toArray), (1, .int .i64 h)] = some (siCells seed h 0).toArray := by
 refine (fill_step (off := 0) (size := 16) (es := seed.map bv) (pre := []) (old := List.replicate 16 (Value.int .u8 0)) (post := [.int .i64 0, .int .i64 0]) rfl rfl rfl rfl rfl (by simp [hs])).trans ?_
 refine (fill_step (off := 16) (size := 1) (es := [.int .i64 h]) (pre := seed.map bv) (old := [.int .i64 0]) (post := [.int .i64 0]) rfl (by simp) (by simp [hs]) rfl rfl rfl).trans ?_
 simp [Instr.fill, siCells]
end Go.Adm
namespace Go.Proofs.Ytfakjamocpamiaa
open Go Go.RowKit Go.Adm

theorem Sign_own (w : World) (seed d : List UInt8) (h n : Int) (hs : seed.length = 16) (hd : d.length = 32) :
  Calls Try.prog 39 #[.agg (siCells seed h n).toArray, .agg (d.map bv).toArray] w (SgnOwn (signR seed d h n) 41 w) := by
 unfold signR
 split
 ·rename_i h1
  exact (Sign_bad w seed d h n hs hd h1).mono fun e w' ⟨he, hb⟩ => SgnOwn.none siz 1 he hb
 ·rename_i h1
  have h3 : hOk h = true := by cases hq : hOk h <;> simp_all
  obtain ⟨h4, h5⟩ := (hOk_iff h).1 h3
  have h6 : ¬ n < 0 := fun e => h1 (.inr e)
  obtain ⟨kh, rfl⟩ := Int.eq_ofNat_of_zero_le h4
  obtain ⟨kn, rfl⟩ := Int.eq_ofNat_of_zero_le (by omega : 0 ≤ n)
  simp only [Int.toNat_natCast]
  split
  ·rename_i h2
   exact (Sign_full w seed d kh kn hs hd (by omega) h2).mono fun e w' ⟨he, hb⟩ => SgnOwn.none siz 13 he hb
  ·rename_i h2
   exact (Sign_make w seed d kh kn hs hd (by omega) (by omega)).mono fun e w' h => SgnOwn.made h
theorem refSign_own (w : World) (seed d : List UInt8) (h n : Int) (hs : seed.length = 16) (hd : d.length = 32) :
  Calls Try.prog 44 #[.agg (siCells seed h n).toArray, .agg (d.map bv).toArray] w (SgnOwn (signR seed d h n) 41 w) := by
 unfold signR
 split
 ·rename_i h1
  exact (refSign_bad w seed d h n hs hd h1).mono fun e w' ⟨he, hb⟩ => SgnOwn.none siz 1 he hb
 ·rename_i h1
  have h3 : hOk h = true := by cases hq : hOk h <;> simp_all
  obtain ⟨h4, h5⟩ := (hOk_iff h).1 h3
  have h6 : ¬ n < 0 := fun e => h1 (.inr e)
  obtain ⟨kh, rfl⟩ := Int.eq_ofNat_of_zero_le h4
  obtain ⟨kn, rfl⟩ := Int.eq_ofNat_of_zero_le (by omega : 0 ≤ n)
  simp only [Int.toNat_natCast]
  split
  ·rename_i h2
   exact (refSign_full w seed d kh kn hs hd (by omega) h2).mono fun e w' ⟨he, hb⟩ => SgnOwn.none siz 13 he hb
  ·rename_i h2
   exact (refSign_make w seed d kh kn hs hd (by omega) (by omega)).mono fun e w' h => SgnOwn.made h
end Go.Proofs.Ytfakjamocpamiaa

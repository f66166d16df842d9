/- Opening envelopes, and the cases of the laws on envelopes. -/
import Derived.Test.YtfakjamocpamiaaOpenK
import Derived.Test.YtfakjamocpamiaaOpenS
import Derived.Test.YtfakjamocpamiaaOpenY
import Derived.Test.YtfakjamocpamiaaEnvG
set_option linter.unusedSimpArgs false
set_option linter.unusedVariables false
set_option maxRecDepth 100000
namespace Go.Adm
open Go Go.RowKit Go.ChangeShapes Go.WideShapes Go.Deep
section
variable {H : Type} {enc : TypeId × Value → H} {P : Program} {w : World} {base : Nat} {spare : Nat → Bool} {held : Bool}
/-- how long a slice that came in may be -/
theorem trod_cap {t u : TypeId} {fuel : Nat} {v : Value} {x : DataW H × List MemPlace} (ht : P.underlying t = some (.slice u)) (hb : 0 < P.bytesOf u)
  (h : DataW.trod enc P w base (fun _ => true) held fuel t [v] = some x) (hs : Small P t x.1) : ∃ A n c, v = .slice A n c ∧ n ≤ c ∧ c ≤ 140737488351232 := by
 rcases open_slice ht h with ⟨hcs, _⟩ | ⟨a, len, cap, m, n, D, Pl, hcs, _, hl, hm, hmm, hxx, hx⟩
 ·injection hcs with hv _
  exact ⟨none, 0, 0, hv, Nat.le_refl _, by decide⟩
 ·injection hcs with hv _
  simp only [if_true] at hmm
  subst hmm
  subst hxx
  have hc := hs.cap ht hb
  simp only [List.length_map, List.length_range] at hc
  exact ⟨some a, len, m, hv, hl, by omega⟩
/-- a slice of elements that are read one by one -/
theorem trod_elsN {α : Type} [Inhabited α] (f : α → List Value) (ok : α → Prop) {t u : TypeId} {sz fuel : Nat} {v : Value} {x : DataW H × List MemPlace} (hsz : 0 < sz) (ht : P.underlying t = some (.slice u)) (hcu : P.cellsOf u = sz) (hbu : 0 < P.bytesOf u)
  (hel : ∀ fuel cs x, Small P u x.1 → cs.length = sz → DataW.trod enc P w base (fun _ => true) held fuel u cs = some x → ∃ a, cs = f a ∧ ok a) (hlen : ∀ a, ok a → (f a).length = sz)
  (h : DataW.trod enc P w base (fun _ => true) held fuel t [v] = some x) (hs : Small P t x.1) :
  ∃ (A : Option Addr) (n c : Nat) (l : List α), v = .slice A n c ∧ n ≤ c ∧ l.length = n ∧ (∀ y ∈ l, ok y) ∧ Els w w.heap.size sz A n (l.map f) := by
 rcases open_slice ht h with ⟨hcs, _⟩ | ⟨a, len, cap, m, n, D, Pl, hcs, _, hl, hm, hmm, hxx, hx⟩
 ·injection hcs with hv _
  exact ⟨none, 0, 0, [], hv, Nat.le_refl _, rfl, by simp, Els.nil⟩
 ·injection hcs with hv _
  simp only [if_true] at hmm
  subst hmm
  subst hxx
  rw [hcu] at hx
  have key : ∀ i, i < len → ∃ y : α, ok y ∧ ∀ r v, (f y)[r]? = some v → w.cell? ((a.add (i * sz)).add r) = some v := fun i hi => by
   obtain ⟨cs', h1, h2⟩ := hx i (by omega)
   obtain ⟨_, h4, h3⟩ := World.cells?_some h1
   have hsm : Small P u (D i) := hs.elem ht (List.mem_append.2 (.inl (List.mem_map.2 ⟨i, List.mem_range.2 hi, rfl⟩)))
   obtain ⟨y, rfl, hy⟩ := hel n cs' (D i, Pl i) hsm h4 h2
   refine ⟨y, hy, fun r v hv => ?_⟩
   rw [h3 r (by rw [List.getElem?_eq_some_iff] at hv; obtain ⟨h5, _⟩ := hv; omega)]
   exact hv
  obtain ⟨g, hg⟩ := choose_lt key
  have hlg : ∀ y ∈ (List.range len).map g, ok y := fun y hy => by
   obtain ⟨i, hi, rfl⟩ := List.mem_map.1 hy
   exact (hg i (by simpa using hi)).1
  have hle : ∀ e ∈ ((List.range len).map g).map f, e.length = sz := fun e he => by
   obtain ⟨z, hz, rfl⟩ := List.mem_map.1 he
   exact hlen z (hlg z hz)
  refine ⟨some a, len, m, (List.range len).map g, hv, hl, by simp, hlg, ⟨⟨?_, fun hn => ?_⟩, hle, by simp⟩⟩
  ·rw [flat_len (size := sz) hle]
   simp
  ·have hlen0 : 0 < len := by
    rcases Nat.eq_zero_or_pos len with h0 | h0
    ·subst h0; simp at hn
    ·exact h0
   have h0 := hg 0 hlen0
   have hf0 := hlen _ h0.1
   have h1 := h0.2 0 ((f (g 0))[0]'(by omega)) (List.getElem?_eq_getElem (by omega))
   have h2 := World.block_lt_of_cell? w _ h1
   rw [add_block, add_block] at h2
   refine ⟨a, rfl, h2, fun j v hv => ?_⟩
   have h3 := rd_flat (w := w) (size := sz) (ad := a) (((List.range len).map g).map f) 0 hle (fun i hi r v hv => by
     have hi' : i < len := by simpa using hi
     rw [Nat.zero_add]
     refine (hg i hi').2 r v ?_
     simpa using hv) j v hv
   rw [add_add, Nat.zero_mul, Nat.zero_add] at h3
   exact h3
end
instance : Inhabited Ks := ⟨⟨0, [], 0, none, 0, [], none, 0, []⟩⟩
/-- what is small of a signature that came in -/
def KsSm (x : Ks) : Prop := x.chain.length ≤ 140737488351232 ∧ x.path.length ≤ 140737488351232
end Go.Adm
namespace Go.Proofs.Ytfakjamocpamiaa
open Go Go.RowKit Go.Adm Go.ChangeShapes Go.WideShapes Go.Deep
section
variable {H : Type} {enc : TypeId × Value → H} {w : World} {base b0 : Nat} {held : Bool} {r : Reach} {v : Value} {d : DataW H} {ps : List MemPlace}
theorem el_hs {fuel : Nat} {v : Value} {x : DataW H × List MemPlace} (h : DataW.trod enc Try.prog w base (fun _ => true) held fuel 58 [v] = some x) (hs : Small Try.prog 58 x.1) :
  ∃ A c l, v = .slice A l.length c ∧ l.length ≤ c ∧ c ≤ 140737488351232 ∧ (∀ y ∈ l, y.length = 16) ∧ Els w w.heap.size 16 A l.length (hvs l) := by
 obtain ⟨A, n, c, rfl, h1, h2⟩ := trod_cap Try.underlying58 (of_decide_eq_true (by kernel_rfl)) h hs
 obtain ⟨A', n', c', l, e, h3, h4, h5, h6, h7⟩ := trod_rows (P := Try.prog) (by decide : 0 < 16) Try.underlying58 Try.underlying41 Try.underlying5 (by kernel_rfl) (by kernel_rfl) h
 injection e with e _
 injection e with e1 e2 e3
 subst e1 e2 e3
 subst h5
 exact ⟨_, _, l, rfl, h1, h2, h6, h7⟩
theorem el_ksig (fuel : Nat) (cs : List Value) (x : DataW H × List MemPlace) (hs : Small Try.prog 64 x.1) (hl : cs.length = 20) (h : DataW.trod enc Try.prog w base (fun _ => true) held fuel 64 cs = some x) : ∃ e : Ks, cs = ksC e ∧ (KsOk w w.heap.size e ∧ KsSm e) := by
 have k17 : Try.prog.cellsOf 62 = 17 := by kernel_rfl
 have k3 : Try.prog.cellsOf 60 = 3 := by kernel_rfl
 have k16 : Try.prog.cellsOf 41 = 16 := by kernel_rfl
 have ki : Try.prog.cellsOf 3 = 1 := by kernel_rfl
 have kh : Try.prog.cellsOf 58 = 1 := by kernel_rfl
 obtain ⟨m0, y0, f0, s0⟩ := fldS Try.underlying64 h hs 0 _ rfl
 obtain ⟨m1, y1, f1, s1⟩ := fldS Try.underlying64 h hs 1 _ rfl
 change DataW.trod enc Try.prog w base (fun _ => true) held m0 62 ((cs.drop 0).take (Try.prog.cellsOf 62)) = some y0 at f0
 change DataW.trod enc Try.prog w base (fun _ => true) held m1 60 ((cs.drop 17).take (Try.prog.cellsOf 60)) = some y1 at f1
 rw [k17, List.drop_zero] at f0
 rw [k3] at f1
 obtain ⟨p0, z0, g0⟩ := fld Try.underlying62 f0 0 _ rfl
 obtain ⟨p1, z1, g1⟩ := fld Try.underlying62 f0 1 _ rfl
 obtain ⟨hh, e0, _⟩ := DataW.trod_int Try.underlying3 g0
 obtain ⟨rr, e1, hr⟩ := trod_bytes Try.underlying41 Try.underlying5 (by kernel_rfl) (by kernel_rfl) g1
 obtain ⟨p2, z2, g2, t2⟩ := fldS Try.underlying60 f1 s1 0 _ rfl
 obtain ⟨p3, z3, g3, t3⟩ := fldS Try.underlying60 f1 s1 1 _ rfl
 obtain ⟨p4, z4, g4, t4⟩ := fldS Try.underlying60 f1 s1 2 _ rfl
 obtain ⟨lf, e2, _⟩ := DataW.trod_int Try.underlying3 g2
 change ((cs.take 17).drop 0).take (Try.prog.cellsOf 3) = _ at e0
 change ((cs.take 17).drop 1).take (Try.prog.cellsOf 41) = _ at e1
 change (((cs.drop 17).take 3).drop 0).take (Try.prog.cellsOf 3) = _ at e2
 change DataW.trod enc Try.prog w base (fun _ => true) held p3 58 ((((cs.drop 17).take 3).drop 1).take (Try.prog.cellsOf 58)) = some z3 at g3
 change DataW.trod enc Try.prog w base (fun _ => true) held p4 58 ((((cs.drop 17).take 3).drop 2).take (Try.prog.cellsOf 58)) = some z4 at g4
 rw [ki, List.drop_zero] at e0 e2
 rw [k16] at e1
 rw [kh] at g3 g4
 have hp : ∀ (k : Nat) (hk : k < 20), (cs.drop k).take 1 = [cs[k]] := fun k hk => by
  rw [List.drop_eq_getElem_cons (by omega), List.take_succ_cons, List.take_zero]
 have h18 : ((cs.drop 17).take 3).drop 1 = (cs.drop 18).take 2 := by rw [List.drop_take, List.drop_drop]
 have h19 : ((cs.drop 17).take 3).drop 2 = (cs.drop 19).take 1 := by rw [List.drop_take, List.drop_drop]
 rw [h18, List.take_take, Nat.min_eq_left (by decide), hp 18 (by omega)] at g3
 rw [h19, List.take_take, Nat.min_self, hp 19 (by omega)] at g4
 rw [List.take_take, Nat.min_eq_left (by decide), hp 17 (by omega)] at e2
 rw [List.take_take, Nat.min_eq_left (by decide)] at e0
 have h1 : (cs.take 17).drop 1 = (cs.drop 1).take 16 := by rw [List.drop_take]
 rw [h1, List.take_take, Nat.min_self] at e1
 obtain ⟨Ac, cc, ch, a1, a2, a3, a4, a5⟩ := el_hs g3 t3
 obtain ⟨Ap, cp, pt, b1, b2, b3, b4, b5⟩ := el_hs g4 t4
 refine ⟨⟨hh, rr, lf, Ac, cc, ch, Ap, cp, pt⟩, ?_, ⟨hr, a5, a4, ⟨a2, Nat.le_trans a3 (by decide)⟩, b5, b4, ⟨b2, Nat.le_trans b3 (by decide)⟩⟩, ⟨Nat.le_trans a2 a3, Nat.le_trans b2 b3⟩⟩
 have q1 := List.take_append_drop 1 cs
 have q2 := List.take_append_drop 16 (cs.drop 1)
 have q3 : cs.drop 17 = [cs[17], cs[18], cs[19]] := by
  rw [List.drop_eq_getElem_cons (by omega), List.drop_eq_getElem_cons (by omega), List.drop_eq_getElem_cons (by omega), List.drop_of_length_le (by omega)]
 rw [List.drop_drop] at q2
 rw [e1, show 1 + 16 = 17 from rfl, q3, a1, b1] at q2
 injection e2 with e2 _
 rw [e2] at q2
 rw [← q1, e0, ← q2]
 rfl
/-- an envelope that came in -/
theorem open_env (hval : Value.okWide Try.prog w r b0 25 v) (hd : DataW.Trod enc Try.prog w base (fun _ => true) held 25 v d ps) (hs : Small Try.prog 25 d) :
  ∃ (R : EnvR) (cs : List Value), v = .agg cs.toArray ∧ EnvAt w w.heap.size R cs ∧ R.kind.size ≤ 140737488355328 ∧ R.pay.length ≤ 140737488351232 ∧ R.sigs.length ≤ 140737488351232 ∧ ∀ s ∈ R.sigs, s.chain.length ≤ 140737488351232 ∧ s.path.length ≤ 140737488351232 := by
 obtain ⟨cs, rfl, hc⟩ := okWide_struct Try.underlying25 hval
 obtain ⟨fu, f⟩ := hd
 have hsz : Try.prog.cellsOf 25 = 3 := by kernel_rfl
 have k0 : Try.prog.cellsOf 9 = 1 := by kernel_rfl
 have k1 : Try.prog.cellsOf 22 = 1 := by kernel_rfl
 have k2 : Try.prog.cellsOf 23 = 1 := by kernel_rfl
 obtain ⟨m0, y0, f0, s0⟩ := fldS Try.underlying25 f hs 0 _ rfl
 obtain ⟨m1, y1, f1, s1⟩ := fldS Try.underlying25 f hs 1 _ rfl
 obtain ⟨m2, y2, f2, s2⟩ := fldS Try.underlying25 f hs 2 _ rfl
 have hl : cs.toList.length = 3 := by rw [Array.length_toList, hc, hsz]
 change DataW.trod enc Try.prog w base (fun _ => true) held m0 9 ((cs.toList.drop 0).take (Try.prog.cellsOf 9)) = some y0 at f0
 change DataW.trod enc Try.prog w base (fun _ => true) held m1 22 ((cs.toList.drop 1).take (Try.prog.cellsOf 22)) = some y1 at f1
 change DataW.trod enc Try.prog w base (fun _ => true) held m2 23 ((cs.toList.drop 2).take (Try.prog.cellsOf 23)) = some y2 at f2
 rw [k0] at f0
 rw [k1] at f1
 rw [k2] at f2
 have hcs : cs = cs.toList.toArray := rfl
 rw [hcs]
 clear hcs
 generalize cs.toList = L at *
 match L, hl with
 | [a, b, c], _ =>
  change DataW.trod enc Try.prog w base (fun _ => true) held m0 9 [a] = some y0 at f0
  change DataW.trod enc Try.prog w base (fun _ => true) held m1 22 [b] = some y1 at f1
  change DataW.trod enc Try.prog w base (fun _ => true) held m2 23 [c] = some y2 at f2
  obtain ⟨s, e0, e1, _⟩ := DataW.trod_string Try.underlying9 f0
  change Small Try.prog 9 y0.1 at s0
  rw [e1] at s0
  have hsz := s0.str
  rw [Array.length_toList] at hsz
  injection e0 with e0 _
  obtain ⟨Ap, cp, p, hb, hb1, hb2, hb3⟩ := open_bs Try.underlying22 Try.underlying5 (by kernel_rfl) (of_decide_eq_true (by kernel_rfl)) f1 s1
  obtain ⟨As, ns, cc, hcv, hc1, hc2⟩ := trod_cap Try.underlying23 (of_decide_eq_true (by kernel_rfl)) f2 s2
  obtain ⟨As', ns', cc', l, hcv', hn1, hn2, hok, hE⟩ := trod_elsN (P := Try.prog) (w := w) ksC (fun e => KsOk w w.heap.size e ∧ KsSm e) (by decide) Try.underlying23 (by kernel_rfl) (of_decide_eq_true (by kernel_rfl)) (fun fu cs x h1 h2 h3 => el_ksig fu cs x h1 h2 h3) (fun a h => ksC_len h.1.r16) f2 s2
  rw [hcv] at hcv'
  injection hcv' with i1 i2 i3
  subst i1 i2 i3
  refine ⟨⟨s, p, l.map Ks.s⟩, _, rfl, ⟨Ap, p.length, cp, As, ns, cc, l, by rw [e0, hb, hcv]; rfl, rfl, hb3, rfl, ⟨hE, fun y hy => (hok y hy).1, hn2⟩, hb1, Nat.le_trans hb2 (by decide), hc1, Nat.le_trans hc2 (by decide)⟩, Nat.le_trans hsz (by decide), Nat.le_trans hb1 hb2, by show (l.map Ks.s).length ≤ _; rw [List.length_map, hn2]; exact Nat.le_trans hc1 hc2, fun q hq => ?_⟩
  obtain ⟨y, hy, rfl⟩ := List.mem_map.1 hq
  exact (hok y hy).2
/-- the cells of a case -/
def caseC (Ap : Option Addr) (np cp : Nat) (As : Option Addr) (ns cs : Nat) (sp : Int) (b : UInt8) : List Value := [.slice Ap np cp, .slice As ns cs, .int .i64 sp, bv b]
/-- a case that came in -/
theorem open_case (hval : Value.okWide Try.prog w r b0 27 v) (hd : DataW.Trod enc Try.prog w base (fun _ => true) held 27 v d ps) (hs : Small Try.prog 27 d) :
  ∃ (Ap : Option Addr) (cp : Nat) (p : List UInt8) (As : Option Addr) (cs : Nat) (q : List UInt8) (sp : Int) (b : UInt8), v = .agg (caseC Ap p.length cp As q.length cs sp b).toArray ∧ p.length ≤ cp ∧ cp ≤ 140737488351232 ∧ Rd w w.heap.size 1 Ap p.length (p.map bv) ∧ q.length ≤ cs ∧ cs ≤ 140737488351232 ∧ Rd w w.heap.size 1 As q.length (q.map bv) ∧ -9223372036854775808 ≤ sp ∧ sp ≤ 9223372036854775807 := by
 obtain ⟨cs, rfl, hc⟩ := okWide_struct Try.underlying27 hval
 obtain ⟨fu, f⟩ := hd
 have hsz : Try.prog.cellsOf 27 = 4 := by kernel_rfl
 have k0 : Try.prog.cellsOf 22 = 1 := by kernel_rfl
 have k1 : Try.prog.cellsOf 3 = 1 := by kernel_rfl
 have k2 : Try.prog.cellsOf 5 = 1 := by kernel_rfl
 obtain ⟨m0, y0, f0, s0⟩ := fldS Try.underlying27 f hs 0 _ rfl
 obtain ⟨m1, y1, f1, s1⟩ := fldS Try.underlying27 f hs 1 _ rfl
 obtain ⟨m2, y2, f2⟩ := fld Try.underlying27 f 2 _ rfl
 obtain ⟨m3, y3, f3⟩ := fld Try.underlying27 f 3 _ rfl
 have hl : cs.toList.length = 4 := by rw [Array.length_toList, hc, hsz]
 change DataW.trod enc Try.prog w base (fun _ => true) held m0 22 ((cs.toList.drop 0).take (Try.prog.cellsOf 22)) = some y0 at f0
 change DataW.trod enc Try.prog w base (fun _ => true) held m1 22 ((cs.toList.drop 1).take (Try.prog.cellsOf 22)) = some y1 at f1
 change DataW.trod enc Try.prog w base (fun _ => true) held m2 3 ((cs.toList.drop 2).take (Try.prog.cellsOf 3)) = some y2 at f2
 change DataW.trod enc Try.prog w base (fun _ => true) held m3 5 ((cs.toList.drop 3).take (Try.prog.cellsOf 5)) = some y3 at f3
 rw [k0] at f0 f1
 rw [k1] at f2
 rw [k2] at f3
 have hcs : cs = cs.toList.toArray := rfl
 rw [hcs]
 clear hcs
 generalize cs.toList = L at *
 match L, hl with
 | [a, b, c, e], _ =>
  change DataW.trod enc Try.prog w base (fun _ => true) held m0 22 [a] = some y0 at f0
  change DataW.trod enc Try.prog w base (fun _ => true) held m1 22 [b] = some y1 at f1
  change DataW.trod enc Try.prog w base (fun _ => true) held m2 3 [c] = some y2 at f2
  change DataW.trod enc Try.prog w base (fun _ => true) held m3 5 [e] = some y3 at f3
  obtain ⟨Ap, cp, p, hb, hb1, hb2, hb3⟩ := open_bs Try.underlying22 Try.underlying5 (by kernel_rfl) (of_decide_eq_true (by kernel_rfl)) f0 s0
  obtain ⟨As, cs', q, hq, hq1, hq2, hq3⟩ := open_bs Try.underlying22 Try.underlying5 (by kernel_rfl) (of_decide_eq_true (by kernel_rfl)) f1 s1
  obtain ⟨sp, e2, _, hw⟩ := DataW.trod_int Try.underlying3 f2
  obtain ⟨bb, e3, _, hw3⟩ := DataW.trod_int Try.underlying5 f3
  injection e2 with e2 _
  injection e3 with e3 _
  have hbb := ub_bv hw3
  refine ⟨Ap, cp, p, As, cs', q, sp, ub bb, by rw [hb, hq, e2, e3, hbb]; rfl, hb1, hb2, hb3, hq1, hq2, hq3, ?_⟩
  simpa [Lit.wf, IntKind.min, IntKind.max, IntKind.signed, IntKind.bits] using hw
end
end Go.Proofs.Ytfakjamocpamiaa

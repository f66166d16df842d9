/- made. -/
import Derived.Test.YtfakjamocpamiaaEnvT
import Derived.Test.YtfakjamocpamiaaEnvL
import Derived.Test.YtfakjamocpamiaaOpenN
import Derived.Test.YtfakjamocpamiaaFreO
import Derived.Deep.Cut
import Derived.Deep.CutRange
import Derived.Deep.DeepCutAuto
import Derived.Laws.OwnMore
import Derived.Laws.BitsAllLaws
set_option linter.unusedSimpArgs false
set_option linter.unusedVariables false
set_option maxRecDepth 100000
namespace Go.Adm
open Go Go.RowKit Go.Proofs.Ytfakjamocpamiaa
def MdPost (p q : List UInt8) (sp : Int) (w : World) (e : Ending) (w' : World) : Prop :=
 ∃ R cs, e = .returned (.agg cs.toArray) ∧ EnvAt w' w'.heap.size R cs ∧ MadeR p q sp R ∧ Below w.heap.size w w'
theorem case_cells {Ap : Option Addr} {np cp : Nat} {As : Option Addr} {nq cq : Nat} {sp : Int} {b : UInt8} {w : World} {g : Nat} {t : TypeId} (h : Cells w g t (caseC Ap np cp As nq cq sp b)) :
  w.cell? ⟨g, 0, none⟩ = some (.slice Ap np cp) ∧ w.cell? ⟨g, 1, none⟩ = some (.slice As nq cq) ∧ w.cell? ⟨g, 2, none⟩ = some (.int .i64 sp) ∧ w.cell? ⟨g, 3, none⟩ = some (bv b) :=
 ⟨cellOf h (i := 0) rfl, cellOf h (i := 1) rfl, cellOf h (i := 2) rfl, cellOf h (i := 3) rfl⟩
/-- what signing in a row gives, as the value of an operation -/
def DetC (t u : TypeId) (base : Nat) (Ap : Option Addr) (m cp n : Nat) (l : List Ks) (S : EnvR × List Value × Int) (w : World) (cs : List Value) : Prop :=
 base ≤ w.heap.size ∧ cs.length = 3 ∧ (∀ v ∈ cs, v.oneCell' = true) ∧ (S.2.2 = 0 → ∃ A9 c9 x pp b6, cs = envC sRec Ap m cp A9 (n + 1) c9 ∧ pp ≤ n ∧ S.1.sigs = List.map Ks.s (l.take pp ++ x :: l.drop pp) ∧ base ≤ b6 ∧
  Go.Adm.Own w b6 t 20 A9 (n + 1) c9 ((l.take pp ++ x :: l.drop pp).map ksC).flatten ∧ KsOk w w.heap.size x ∧ (∀ b, KsF [x] b → base ≤ b ∧ b < b6 ∧ OfT w u b) ∧ b6 ≤ w.heap.size)
theorem DetC.grown {t u : TypeId} {base : Nat} {Ap : Option Addr} {m cp n : Nat} {l : List Ks} {S : EnvR × List Value × Int} {w w' : World} {cs : List Value} (hg : w.grownBy w' none) (h : DetC t u base Ap m cp n l S w cs) : DetC t u base Ap m cp n l S w' cs :=
 ⟨Nat.le_trans h.1 hg.size, h.2.1, h.2.2.1, fun h0 => by
  obtain ⟨A9, c9, x, pp, b6, h1, h2, h3, h4, h5, h6, h7, h9⟩ := h.2.2.2 h0
  exact ⟨A9, c9, x, pp, b6, h1, h2, h3, h4, Res.step (r := .own b6 t 20 A9 (n + 1) c9 _) hg h5 (Res.apart_none _), h6.grown hg, fun b hb => ⟨(h7 b hb).1, (h7 b hb).2.1, (h7 b hb).2.2.grown hg⟩, Nat.le_trans h9 hg.size⟩⟩
def VF.det (t u : TypeId) (base : Nat) (Ap : Option Addr) (m cp n : Nat) (l : List Ks) (S : EnvR × List Value × Int) : VF := .gen (fun w v => ∃ cs, v = .tuple #[.agg cs.toArray, .agg S.2.1.toArray, .int .i64 S.2.2] ∧ DetC t u base Ap m cp n l S w cs)
 fun w w' v hg h => by
  obtain ⟨cs, h1, h2⟩ := h
  exact ⟨cs, h1, h2.grown hg⟩
def VF.dec (t u : TypeId) (base : Nat) (Ap : Option Addr) (m cp n : Nat) (l : List Ks) (S : EnvR × List Value × Int) : VF := .gen (fun w v => ∃ cs, v = .agg cs.toArray ∧ DetC t u base Ap m cp n l S w cs)
 fun w w' v hg h => by
  obtain ⟨cs, h1, h2⟩ := h
  exact ⟨cs, h1, h2.grown hg⟩
theorem signE_si (R : EnvR) (seed : List UInt8) (h n : Int) (hs : seed.length = 16) : ∃ s h' n', (signE R seed h n).2.1 = siCells s h' n' ∧ s.length = 16 := by
 have hz : ∃ (s : List UInt8) (h n : Int), siz = siCells s h n ∧ s.length = 16 := ⟨List.replicate 16 0, 0, 0, rfl, rfl⟩
 unfold signE
 split
 ·exact hz
 ·split
  ·exact hz
  ·split
   ·exact hz
   ·split
    ·exact hz
    ·obtain ⟨s, h', n', h1, h2, _⟩ := (signR_ok seed (msgS R.kind R.pay) h n hs).si
     exact ⟨s, h', n', h1, h2⟩
theorem kss_own {w : World} {base n c : Nat} {t : TypeId} {A : Option Addr} {l : List Ks} (ho : Go.Adm.Own w base t 20 A n c (l.map ksC).flatten) (hi : KsI l w) (hn : l.length = n) : Kss w w.heap.size A n l :=
 ⟨Els.of ho (fun e he => by obtain ⟨y, hy, rfl⟩ := List.mem_map.1 he; exact ksC_len (hi y hy).r16) (by rw [List.length_map]; exact hn), hi, hn⟩
theorem md_end {w W : World} {p q : List UInt8} {sp : Int} {kd : ByteArray} {pay : List UInt8} {Ap A : Option Addr} {m cp n c : Nat} {l : List Ks} (hk : Kss W W.heap.size A n l) (hp : Rd W W.heap.size 1 Ap m (pay.map bv)) (hpm : pay.length = m) (h1 : m ≤ cp) (h2 : cp ≤ maxLen) (h3 : n ≤ c ∧ c ≤ maxLen) (hM : MadeR p q sp ⟨kd, pay, l.map Ks.s⟩) (hb : Below w.heap.size w W) : MdPost p q sp w (.returned (.agg (envC kd Ap m cp A n c).toArray)) W :=
 ⟨⟨kd, pay, l.map Ks.s⟩, _, rfl, ⟨Ap, m, cp, A, n, c, l, rfl, hpm, hp, rfl, hk, h1, h2, h3.1, h3.2⟩, hM, hb⟩
theorem spoilK_cases (sp : Int) : spoilK sp = 0 ∨ spoilK sp = 1 ∨ spoilK sp = 2 ∨ spoilK sp = 3 ∨ spoilK sp = 4 ∨ spoilK sp = 5 := by
 have h1 : sp.tmod 6 < 6 := Int.tmod_lt_of_pos sp (by decide)
 have h2 : -6 < sp.tmod 6 := Int.lt_tmod_of_pos sp (by decide)
 unfold spoilK
 rw [Int.tmod_eq_emod_of_nonneg (by omega)]
 omega
theorem spoilK_wrap (sp : Int) : (wrap64 (sp.tmod 6 + 6)).tmod 6 = spoilK sp := by
 have h1 : sp.tmod 6 < 6 := Int.tmod_lt_of_pos sp (by decide)
 have h2 : -6 < sp.tmod 6 := Int.lt_tmod_of_pos sp (by decide)
 rw [show wrap64 (sp.tmod 6 + 6) = sp.tmod 6 + 6 from by unfold wrap64; omega]
 rfl
theorem own_not {base size n c b : Nat} {t : TypeId} {A : Option Addr} {xs : List Value} (h : (Value.slice A n c).ownBlock ≠ some b) : (Res.own base t size A n c xs).apart (some b) := fun q hq => by
 injection hq with hq
 subst hq
 exact .inr h
theorem own_form {w : World} {base size n c : Nat} {t : TypeId} {A : Option Addr} {xs : List Value} (h : Go.Adm.Own w base t size A n c xs) (hn : n ≠ 0) : ∃ G, A = some ⟨G, 0, none⟩ ∧ base ≤ G := by
 rcases h.2 with ⟨hv, h1⟩ | ⟨g', cap, cur, hv, hb, _⟩
 ·injection hv with _ h2
  omega
 ·injection hv with hv
  exact ⟨g', hv, hb⟩
theorem All.put {w : World} {rs : List Res} {G base size n c : Nat} {t : TypeId} {xs : List Value} (h : All w rs) (i : Nat) (hi : rs[i]? = some (.own base t size (some ⟨G, 0, none⟩) n c xs)) (j : Nat) (u : Value) (ha : Apart (some G) (rs.eraseIdx i)) :
  All (w.setCell ⟨G, j, none⟩ u) (rs.set i (.own base t size (some ⟨G, 0, none⟩) n c (xs.set j u))) :=
 have h1 := World.ownsRow.stored (h.at_ i hi : Go.Adm.Own w base t size (some ⟨G, 0, none⟩) n c xs) j u
 All.upd h1.2 i _ h h1.1 ha
theorem flat_put {k : Nat} {u : Value} {o : Nat} (ho : o < k) : ∀ (es : List (List Value)) (j : Nat) (hj : j < es.length), (∀ e ∈ es, e.length = k) → es.flatten.set (j * k + o) u = (es.set j (es[j].set o u)).flatten
 | [], j, hj, _ => absurd hj (by simp)
 | e :: es, 0, _, he => by
  have h1 := he e List.mem_cons_self
  simp only [Nat.zero_mul, Nat.zero_add, List.flatten_cons, List.set_cons_zero, List.getElem_cons_zero]
  rw [List.set_append_left _ _ (by omega)]
 | e :: es, j + 1, hj, he => by
  have h1 := he e List.mem_cons_self
  have h2 := flat_put (u := u) ho es j (by simpa using hj) (fun x hx => he x (List.mem_cons_of_mem _ hx))
  simp only [List.flatten_cons, List.set_cons_succ, List.getElem_cons_succ]
  rw [List.set_append_right _ _ (by rw [h1, Nat.succ_mul]; omega), ← h2, show (j + 1) * k + o - e.length = j * k + o from by rw [h1, Nat.succ_mul]; omega]
theorem env_set0 (kind kd : ByteArray) (Ap : Option Addr) (np cp : Nat) (As : Option Addr) (ns cs : Nat) : (envC kind Ap np cp As ns cs).set 0 (.string kd) = envC kd Ap np cp As ns cs := rfl
theorem env_set1 (kind : ByteArray) (Ap : Option Addr) (np cp : Nat) (As : Option Addr) (ns cs : Nat) (A : Option Addr) (n c : Nat) : (envC kind Ap np cp As ns cs).set 1 (.slice A n c) = envC kind A n c As ns cs := rfl
/-- append onto the empty literal: nothing of before is written -/
theorem run_app_lit {P : Program} (w : World) {t e : TypeId} {z : Value} {size bytes : Nat} (E : ElemOf P t e z size bytes) (base : Nat) (ty : TypeId) (g : Nat) (hown : Go.Adm.Own w base e size (some ⟨g, 0, none⟩) 0 0 [])
  (B : Nat) (A : Option Addr) (m c : Nat) (news : List Value) (hr : Rd w B size A m news) (h1 : ∀ u ∈ news, u.oneCell' = true) (hbytes : m * bytes ≤ 140737488355328) (hbase : base ≤ w.heap.size) :
  ∃ A' c' w', (Builtin.append_ #[t, t] ty #[.slice (some ⟨g, 0, none⟩) 0 0, .slice A m c]).run P w = .ok (.slice A' m c') w' ∧ Go.Adm.Own w' base e size A' m c' news ∧ w.grownBy w' none := by
 obtain ⟨i, hi, hz, hsize, hby⟩ := E.hi
 rcases Nat.eq_zero_or_pos m with h0 | h0
 ·subst h0
  have hn : news = [] := List.eq_nil_of_length_eq_zero (by simpa using hr.len)
  subst hn
  refine ⟨_, 0, w, ?_, hown, World.grownBy.refl w _⟩
  rcases A with _ | ad
  ·exact run_app_none w base t ty e i size E.ht hi _ 0 [] hown c
  ·simp [Builtin.append_, run_underlying E.ht, sizeOf, typeInfo, hi, Builtin.lenOf, Builtin.firstCells, loadCells, loadCellsFrom, storeCells]
 ·obtain ⟨ad, rfl, _, hc⟩ := hr.at_ h0
  have h63 : m ≤ maxLen := by
   have := Nat.le_mul_of_pos_right m E.hb
   simp only [maxLen]; omega
  have h63' := h63
  simp only [maxLen] at h63'
  have hge := grownCap_ge w (0 + m) 0 e
  have hcm : grownCap w (0 + m) 0 e ≤ maxLen := grownCap_le_maxLen w (0 + m) 0 e (by omega)
  have hrun := run_append_grow (P := P) w t ty e i z E.ht hi hz ⟨g, 0, none⟩ 0 0 [] (by simp) (fun j v h => by simp at h) ad m c news (by rw [hsize]; exact hr.len) hc (by omega) (by omega) (growslice_fits (by omega) (by rw [hby, Nat.zero_add]; exact hbytes))
  refine ⟨some ⟨w.heap.size, 0, none⟩, grownCap w (0 + m) 0 e, _, by rw [hrun, Nat.zero_add], ⟨hr.len, .inr ⟨w.heap.size, _, _, rfl, hbase, heap_alloc_new w.drew _, by omega, hcm, ?_, ?_⟩⟩, ⟨rfl, rfl, rfl, by simp, fun k hk _ => by show (w.heap.push _)[k]? = _; rw [Array.getElem?_push, if_neg (by omega)]⟩⟩
  ·simp only [Array.size_append, List.size_toArray, size_zeroCells, E.hz, hr.len, List.length_nil, Nat.zero_add, ← Nat.add_mul]
   rw [Nat.zero_add] at hge
   congr 1
   omega
  ·simp only [Array.toList_append, List.append_assoc, List.nil_append]
   rw [← hr.len]
   exact List.take_left
theorem wp_app_lit {P : Program} (w : World) {o : Oper} {a : Act} {K : Act → World → Prop} {Q : Exit → Act → World → Prop} {t e : TypeId} {z : Value} {size bytes : Nat} (E : ElemOf P t e z size bytes) (s x : Operand)
  (ho : o.op = .call { callee := .builtin .append, args := #[s, x], argTypes := #[t, t] }) (base g : Nat) (hs : a.eval s = .slice (some ⟨g, 0, none⟩) 0 0) (hown : Go.Adm.Own w base e size (some ⟨g, 0, none⟩) 0 0 [])
  (B : Nat) (A : Option Addr) (m c : Nat) (news : List Value) (hx : a.eval x = .slice A m c) (hr : Rd w B size A m news) (h1 : ∀ u ∈ news, u.oneCell' = true) (hbytes : m * bytes ≤ 140737488355328) (hbase : base ≤ w.heap.size)
  (h : ∀ A' c' w', Go.Adm.Own w' base e size A' m c' news → w.grownBy w' none → K (a.put o.dst (.slice A' m c')) w') : o.wp P a w K Q := by
 obtain ⟨A', c', w', hrun, h2, h3⟩ := run_app_lit (P := P) w E base o.type g hown B A m c news hr h1 hbytes hbase
 unfold Oper.wp execOp
 simp only [ho, resolve, invoke, builtin, Sem.run_bind, Sem.run_pure, Result.andThen_ok, List.map_toArray, List.map_cons, List.map_nil, hs, hx, hrun]
 exact h A' c' w' h2 h3
def VF.row (base : Nat) (t : TypeId) (size n : Nat) (xs : List Value) : VF := .gen (fun w v => ∃ A c, v = .slice A n c ∧ Go.Adm.Own w base t size A n c xs) fun _ _ _ hg ⟨A, c, hv, h⟩ =>
 ⟨A, c, hv, Res.step (r := .own base t size A n c xs) hg h (Res.apart_none _)⟩
def VF.lit0 (base : Nat) (t : TypeId) (size : Nat) : VF := .gen (fun w v => ∃ g, v = .slice (some ⟨g, 0, none⟩) 0 0 ∧ Go.Adm.Own w base t size (some ⟨g, 0, none⟩) 0 0 []) fun _ _ _ hg ⟨g, hv, h⟩ =>
 ⟨g, hv, Res.step (r := .own base t size (some ⟨g, 0, none⟩) 0 0 []) hg h (Res.apart_none _)⟩
theorem add_litG (G i q : Nat) : (⟨G, i, none⟩ : Addr).add q = ⟨G, i + q, none⟩ := by
 unfold Addr.add
 split
 ·rename_i h0; rw [h0]; rfl
 ·simp
theorem flat_mid {k : Nat} {vs : List Value} {o : Nat} (ho : o + vs.length ≤ k) : ∀ (es : List (List Value)) (j : Nat) (hj : j < es.length), (∀ e ∈ es, e.length = k) → es.flatten.take (j * k + o) ++ vs ++ es.flatten.drop (j * k + o + vs.length) = (es.set j (es[j].take o ++ vs ++ es[j].drop (o + vs.length))).flatten
 | [], j, hj, _ => absurd hj (by simp)
 | e :: es, 0, _, he => by
  have h1 := he e List.mem_cons_self
  simp only [Nat.zero_mul, Nat.zero_add, List.flatten_cons, List.set_cons_zero, List.getElem_cons_zero]
  rw [List.take_append_of_le_length (by omega), List.drop_append_of_le_length (by omega)]
  simp
 | e :: es, j + 1, hj, he => by
  have h1 := he e List.mem_cons_self
  have h2 := flat_mid ho es j (by simpa using hj) (fun x hx => he x (List.mem_cons_of_mem _ hx))
  simp only [List.flatten_cons, List.set_cons_succ, List.getElem_cons_succ]
  rw [← h2, List.take_append, List.take_of_length_le (by rw [h1, Nat.succ_mul]; omega), List.drop_append, List.drop_eq_nil_of_le (by rw [h1, Nat.succ_mul]; omega),
   show (j + 1) * k + o - e.length = j * k + o from by rw [h1, Nat.succ_mul]; omega, show (j + 1) * k + o + vs.length - e.length = j * k + o + vs.length from by rw [h1, Nat.succ_mul]; omega]
  simp
/-- a store amid a row of the call's own -/
theorem own_mid {w : World} {base size G n c off : Nat} {e : TypeId} {xs vs : List Value} (h : Go.Adm.Own w base e size (some ⟨G, 0, none⟩) n c xs) (hl : off + vs.length ≤ xs.length) :
  w.there G off vs.length ∧ Go.Adm.Own (w.setCells G off vs) base e size (some ⟨G, 0, none⟩) n c (xs.take off ++ vs ++ xs.drop (off + vs.length)) := by
 obtain ⟨hlen, hr⟩ := h
 rcases hr with ⟨h1, _⟩ | ⟨g', cap, cur, hv', hg, hh, h1, h2, h3, h4⟩
 ·injection h1 with h1
  cases h1
 ·injection hv' with e1 e2 e3
  injection e1 with e1
  injection e1 with e1
  subst e1 e3
  have hC : Cells w G e cur.toList := by simpa [Cells] using hh
  have hn : n * size ≤ c * size := Nat.mul_le_mul_right _ h1
  have hcl : cur.toList.length = c * size := by simpa using h3
  refine ⟨fun i hi => ?_, ?_⟩
  ·have := hC.there (off + i) (by omega)
   rwa [Nat.zero_add] at this
  ·have hS := hC.storeN (vs := vs) (o := off) (by omega)
   refine ⟨?_, .inr ⟨G, c, (cur.toList.take off ++ vs ++ cur.toList.drop (off + vs.length)).toArray, rfl, hg, hS, h1, h2, ?_, ?_⟩⟩
   ·simp only [List.length_append, List.length_take, List.length_drop, hlen]
    omega
   ·simp only [List.size_toArray, List.length_append, List.length_take, List.length_drop, hcl]
    omega
   ·show List.take (n * size) (cur.toList.take off ++ vs ++ cur.toList.drop (off + vs.length)) = _
    rw [take_mid _ _ _ _ _ rfl (by omega) (by omega), h4]
theorem wl_store_row {P : Program} {ops : Array Oper} {rest : List Oper} {o : Oper} {a : Act} {w : World} {Q : Exit → Act → World → Prop} {rs : List Res} (hR : All w rs) (i : Nat) (hgd : o.guard = none) (ty : TypeId) (x y : Operand) (ho : o.op = .store ty x y)
  {base size G n c off : Nat} {e : TypeId} {xs : List Value} (hi : rs[i]? = some (.own base e size (some ⟨G, 0, none⟩) n c xs)) (vs : List Value) (hl : off + vs.length ≤ xs.length) (hx : a.eval x = .pointer (some ⟨G, off, none⟩)) (hy : a.eval y = .agg vs.toArray) (hin : (P.info? ty).map (·.size) = some vs.length) (h1 : ∀ u ∈ vs, u.oneCell' = true)
  (ha : Apart (some G) (rs.eraseIdx i))
  (h : ∀ w', All w' (rs.set i (.own base e size (some ⟨G, 0, none⟩) n c (xs.take off ++ vs ++ xs.drop (off + vs.length)))) → w'.heap.size = w.heap.size → wpList P ops Q rest (a.put o.dst undef) w') : wpList P ops Q (o :: rest) a w :=
 wpList_plain hgd fun _ hK => by
  obtain ⟨ht, hS⟩ := own_mid (hR.at_ i hi : Go.Adm.Own w base e size (some ⟨G, 0, none⟩) n c xs) hl
  have hrun := run_storeVar_mid (P := P) w G off ty vs.toArray (by rw [List.size_toArray]; exact ht) (by rw [List.size_toArray]; exact hin) (all_oneCell_toArray h1)
  have h2 := h _ (All.upd only_setCells i _ hR hS ha) (size_setCells _ _ _ _)
  have hex : (execOp a.eval o).run P w = .ok .skip (w.setCells G off vs) := by
   unfold execOp
   simp only [ho, hx, hy, Instr.storeAt, Instr.sureAddr, Sem.run_bind, Sem.run_pure, Result.andThen_ok, hrun, List.toList_toArray]
  unfold Oper.wp
  rw [hex]
  exact hK _ _ h2
theorem chain_put {ch : List (List UInt8)} (h16 : ∀ y ∈ ch, y.length = 16) (h0 : ch.length ≠ 0) : ∃ c0, (hvs ch).flatten[0]? = some (bv c0) ∧ ∀ z, ∃ ch1, ch1.length = ch.length ∧ (∀ y ∈ ch1, y.length = 16) ∧ (hvs ch).flatten.set 0 (bv z) = (hvs ch1).flatten := by
 match ch, h16, h0 with
 | [], _, h0 => exact absurd rfl h0
 | [] :: _, h16, _ => have := h16 [] List.mem_cons_self; cases this
 | (c0 :: ys) :: cs, h16, _ =>
  refine ⟨c0, rfl, fun z => ⟨(z :: ys) :: cs, rfl, fun y hy => ?_, rfl⟩⟩
  rcases List.mem_cons.1 hy with rfl | h
  ·exact h16 (c0 :: ys) List.mem_cons_self
  ·exact h16 y (List.mem_cons_of_mem _ h)
theorem ks_mid (l : List Ks) (j : Nat) (hj : j < l.length) (he : ∀ e ∈ l.map ksC, e.length = 20) (hr : l[j].r.length = 16) (A8 : Option Addr) (c8 : Nat) (ch1 : List (List UInt8)) (h1 : ch1.length = l[j].chain.length) :
  (l.map ksC).flatten.take (j * 20 + 17) ++ sgCells l[j].leaf A8 l[j].chain.length c8 l[j].Ap l[j].path.length l[j].cp ++ (l.map ksC).flatten.drop (j * 20 + 17 + 3) = ((l.set j { l[j] with Ac := A8, cc := c8, chain := ch1 }).map ksC).flatten := by
 rw [show 3 = (sgCells l[j].leaf A8 l[j].chain.length c8 l[j].Ap l[j].path.length l[j].cp).length from rfl, flat_mid (k := 20) (by show 17 + 3 ≤ 20; omega) (l.map ksC) j (by simpa using hj) he, List.map_set, List.getElem_map]
 congr 2
 show (pkCells l[j].h l[j].r ++ _).take 17 ++ _ ++ (pkCells l[j].h l[j].r ++ sgCells _ _ _ _ _ _ _).drop (17 + 3) = pkCells l[j].h l[j].r ++ sgCells l[j].leaf A8 ch1.length c8 l[j].Ap l[j].path.length l[j].cp
 have hp : (pkCells l[j].h l[j].r).length = 17 := pkLen hr
 rw [← hp, List.take_left, List.drop_eq_nil_of_le (by rw [List.length_append]; exact Nat.le_refl _), h1, List.append_nil]
theorem u8x (a b : UInt8) : bits .xor .u8 (a.toNat : Int) (b.toNat : Int) = ((a ^^^ b).toNat : Int) := by
 rw [u8_xor_nat _ _ a.toNat_lt b.toNat_lt, UInt8.toNat_xor]
theorem KsI.root {w : World} {l : List Ks} {j : Nat} {z : UInt8} (h : KsI l w) (hj : j < l.length) : KsI (l.set j { l[j] with r := l[j].r.set 3 z }) w := fun y hy => by
 rcases List.mem_or_eq_of_mem_set hy with h1 | rfl
 ·exact h y h1
 ·have h2 := h _ (List.getElem_mem hj)
  exact ⟨by show (List.set _ _ _).length = 16; rw [List.length_set]; exact h2.r16, h2.rc, h2.c16, h2.cc, h2.rp, h2.p16, h2.cp⟩
theorem root_each {l : List Ks} {j : Nat} {z : UInt8} (hj : j < l.length) (h : (l.map Ks.s).length ≤ 3 ∧ ∀ s ∈ l.map Ks.s, s.chain.length = 68 ∧ s.path.length ≤ 6) : ((l.set j { l[j] with r := l[j].r.set 3 z }).map Ks.s).length ≤ 3 ∧ ∀ s ∈ (l.set j { l[j] with r := l[j].r.set 3 z }).map Ks.s, s.chain.length = 68 ∧ s.path.length ≤ 6 := by
 refine ⟨by rw [List.length_map, List.length_set, ← List.length_map (f := Ks.s)]; exact h.1, fun s hs => ?_⟩
 obtain ⟨y, hy, rfl⟩ := List.mem_map.1 hs
 rcases List.mem_or_eq_of_mem_set hy with h1 | rfl
 ·exact h.2 _ (List.mem_map_of_mem h1)
 ·exact h.2 l[j].s (List.mem_map_of_mem (List.getElem_mem hj))
theorem flat_get {k : Nat} {o : Nat} (ho : o < k) : ∀ (es : List (List Value)) (j : Nat) (hj : j < es.length), (∀ e ∈ es, e.length = k) → es.flatten[j * k + o]? = es[j][o]?
 | [], j, hj, _ => absurd hj (by simp)
 | e :: es, 0, _, he => by
  have h1 := he e List.mem_cons_self
  simp only [Nat.zero_mul, Nat.zero_add, List.flatten_cons, List.getElem_cons_zero]
  rw [List.getElem?_append_left (by omega)]
 | e :: es, j + 1, hj, he => by
  have h1 := he e List.mem_cons_self
  have h2 := flat_get ho es j (by simpa using hj) (fun x hx => he x (List.mem_cons_of_mem _ hx))
  simp only [List.flatten_cons, List.getElem_cons_succ]
  rw [List.getElem?_append_right (by rw [h1, Nat.succ_mul]; omega), show (j + 1) * k + o - e.length = j * k + o from by rw [h1, Nat.succ_mul]; omega]
  exact h2
theorem row_root (l : List Ks) (j : Nat) (hj : j < l.length) (he : ∀ e ∈ l.map ksC, e.length = 20) (r3 : UInt8) (h3 : l[j].r[3]? = some r3) : (l.map ksC).flatten[j * 20 + 4]? = some (.int .u8 (r3.toNat : Int)) := by
 rw [flat_get (by decide) (l.map ksC) j (by simpa using hj) he, List.getElem_map]
 have h1 : l[j].r.length > 3 := (List.getElem?_eq_some_iff.1 h3).1
 show (Value.int .i64 _ :: l[j].r.map bv ++ _)[3 + 1]? = _
 rw [List.cons_append, List.getElem?_cons_succ, List.getElem?_append_left (by simpa using h1), List.getElem?_map, h3]
 rfl
theorem row_root_put (l : List Ks) (j : Nat) (hj : j < l.length) (he : ∀ e ∈ l.map ksC, e.length = 20) (z : UInt8) (h3 : 3 < l[j].r.length) : (l.map ksC).flatten.set (j * 20 + 4) (bv z) = ((l.set j { l[j] with r := l[j].r.set 3 z }).map ksC).flatten := by
 rw [flat_put (by decide) (l.map ksC) j (by simpa using hj) he, List.map_set, List.getElem_map]
 congr 2
 show (Value.int .i64 _ :: l[j].r.map bv ++ _).set (3 + 1) (bv z) = Value.int .i64 _ :: (l[j].r.set 3 z).map bv ++ _
 rw [List.cons_append, List.set_cons_succ, List.set_append_left _ _ (by simpa using h3), List.map_set]
 rfl
/-- min of two integers, at the operation -/
theorem wl_min {P : Program} {ops : Array Oper} {rest : List Oper} {o : Oper} {a : Act} {w : World} {Q : Exit → Act → World → Prop} {k k' : IntKind} {ts : Array TypeId} (hgd : o.guard = none) (x y : Operand) (ho : o.op = .call { callee := .builtin .min, args := #[x, y], argTypes := ts })
  (m n r : Int) (hx : a.eval x = .int k m) (hy : a.eval y = .int k' n) (hr : min m n = r) (h : wpList P ops Q rest (a.put o.dst (.int k r)) w) : wpList P ops Q (o :: rest) a w := by
 refine wpList_plain hgd fun K hK => ?_
 unfold Oper.wp
 simp only [execOp, ho, resolve, invoke, builtin, Sem.run_bind, Sem.run_pure, Result.andThen_ok, List.map_toArray, List.map_cons, List.map_nil, hx, hy, run_min_int2]
 rw [show (if n < m then n else m) = r from by rw [← hr, Int.min_def]; split <;> split <;> omega]
 exact hK _ _ h
end Go.Adm
namespace Go.Proofs.Ytfakjamocpamiaa
open Go Go.RowKit Go.Adm
set_option maxHeartbeats 12800000 in
theorem made_any (w : World) (B : Nat) (Ap : Option Addr) (np cp : Nat) (p : List UInt8) (As : Option Addr) (nq cq : Nat) (q : List UInt8) (sp : Int) (b : UInt8) (hp : Rd w B 1 Ap np (p.map bv)) (hpn : p.length = np) (hcp : np ≤ cp) (hcm : cp ≤ 140737488351232) (hq : Rd w B 1 As nq (q.map bv)) (hqn : q.length = nq) (hqb : nq ≤ 140737488351232) (hsp : -9223372036854775808 ≤ sp ∧ sp ≤ 9223372036854775807) (hB : B ≤ w.heap.size) :
  Calls Try.prog 10 #[.agg (caseC Ap np cp As nq cq sp b).toArray] w (MdPost p q sp w) := by
 obtain ⟨m, hm⟩ : ∃ m, m = min np 200 := ⟨_, rfl⟩
 have hm1 : m ≤ np := by omega
 have hm2 : m ≤ 200 := by omega
 have hmi : min (np : Int) 200 = (m : Int) := by omega
 obtain ⟨pay, hpay⟩ : ∃ pay, p.take 200 = pay := ⟨_, rfl⟩
 have hpm : pay.length = m := by rw [← hpay, List.length_take, hpn, hm]; omega
 have hrp : Rd w B 1 Ap m (pay.map bv) := by
  have h1 := hp.take (k := m) hm1
  rw [Nat.mul_one, ← List.map_take] at h1
  rw [← hpay, show p.take 200 = p.take m from by
   rw [hm, ← hpn]
   rcases Nat.le_total p.length 200 with h | h
   ·rw [Nat.min_eq_left h, List.take_of_length_le h, List.take_of_length_le (Nat.le_refl _)]
   ·rw [Nat.min_eq_right h]]
  exact h1
 have hR : All w [.low (.rd B 1 Ap m (pay.map bv)), .low (.rd B 1 As nq (q.map bv)), .kept w w.heap.size] := ⟨⟨hrp, hB⟩, ⟨hq, hB⟩, ⟨Below.refl _ _, Nat.le_refl _⟩, trivial⟩
 have HPM := Lib.hid hpm
 have HPAY := Lib.hid hpay
 have HQN := Lib.hid hqn
 have HSP := Lib.hid hsp
 clear hm hpm hpay hrp hp hq hpn hqn hsp
 have hze := zero_env
 have hzs := zero_si
 have hzg := zero_sg
 go_enter Try.func10, Try.ntmps10
 go_upto_region 1 with (fail)
 obtain ⟨g, hg⟩ : ∃ g, g = w.heap.size := ⟨_, rfl⟩
 have hBg : B ≤ g := by omega
 have hgw : w.heap.size ≤ g := by omega
 refine wp_gen ((hR.new (l := caseC Ap np cp As nq cq sp b) (g := g) _ 27 hg rfl).new (l := envZ) (g := g + 1) _ 25 (by simp [hg]) rfl) ?_
 intro W1 hW1
 simp only [← hg]
 clear hR hg
 have hq0 := (case_cells (hW1.at_ 1 rfl)).1
 have wm0 : (0 : Int) ≤ (m : Int) := by omega
 have wm1 : (m : Int) ≤ (cp : Int) := by omega
 have wm2 : ((m : Int)).toNat = m := by omega
 obtain ⟨g3, hg3⟩ : ∃ g3, g3 = W1.heap.size := ⟨_, rfl⟩
 have hgg : g + 1 < g3 := by rw [hg3]; exact Cells.lt (hW1.at_ 0 rfl)
 have HG3 := Lib.hid hg3
 clear hg3
 go_wp2_with (first
  | (refine wl_min rfl (.tmp 15) (.const (.int .i64 200)) rfl np 200 m rfl rfl hmi ?_)
  | (rw [← HG3.out]; refine wl_store_at (hW1.new (l := envZ) (g := g3) _ 25 HG3.out rfl) 0 rfl 25 (.tmp 3) (.tmp 18) rfl g3 _ _ (envC sRec Ap m cp none 0 0) rfl rfl rfl rfl (by kernel_rfl) (envC_one _ _ _ _ _ _ _) (hW1.fresh (by rw [HG3.out]; exact Nat.le_refl _) rfl) ?_; intro W2 hW2 hs2; simp only [List.set_cons_zero] at hW2))
 have hI0 : All W2 [.ksn 64 (g3 + 1) none 0 0 [], .cells g3 25 (envC sRec Ap m cp none 0 0), .cells (g + 1) 25 envZ, .cells g 27 (caseC Ap np cp As nq cq sp b), .low (.rd B 1 Ap m (pay.map bv)), .low (.rd B 1 As nq (q.map bv)), .kept w w.heap.size] := ⟨ksn_nil, hW2⟩
 clear hW1 hW2 hs2 hq0 hmi wm0 wm1 wm2 HG3
 go_loopw [4] (fun iv wr => ∃ (k n c : Nat) (A : Option Addr) (l : List Ks), k ≤ 3 ∧ k ≤ nq ∧ iv = .int .i64 k ∧ Hid ((⟨sRec, pay, l.map Ks.s⟩ : EnvR) = baseK p q k) ∧ Hid (l.length = n) ∧ All wr [.ksn 64 (g3 + 1) A n c l, .cells g3 25 (envC sRec Ap m cp A n c), .cells (g + 1) 25 envZ, .cells g 27 (caseC Ap np cp As nq cq sp b), .low (.rd B 1 Ap m (pay.map bv)), .low (.rd B 1 As nq (q.map bv)), .kept w w.heap.size]) (fun iv _ => 3 - (intOf iv).toNat)
 case atStart => exact ⟨0, 0, 0, none, [], by omega, by omega, rfl, Lib.hid (by rw [← HPAY.out]; rfl), Lib.hid rfl, hI0⟩
 case round =>
  clear hI0
  obtain ⟨k, n, c, A, l, hk3, hkq, rfl, HBK, HLN, hI⟩ := hrel
  obtain ⟨-, q1, -⟩ := case_cells (hI.at_ 3 rfl)
  go_upto_region 3 with (fail)
  obtain ⟨tb, htb⟩ : ∃ tb : Bool, decide (k < nq ∧ k < 3) = tb := ⟨_, rfl⟩
  have HTB := Lib.hid htb
  clear htb
  go_cut [27] (fun t wx => t = .bool tb ∧ wx = wr)
  case first =>
   by_cases c1 : k < nq
   ·have d1 : decide ((k : Int) < (nq : Int)) = true := by simp; omega
    have d1' : decide (k < nq) = true := by simp; omega
    by_cases c2 : k < 3
    ·have d2 : decide ((k : Int) < 3) = true := by simp; omega
     have d2' : decide (k < 3) = true := by simp; omega
     have d3 : decide (k < nq ∧ k < 3) = true := decide_eq_true ⟨c1, c2⟩
     clear c1 c2
     go_wp2_with fail
     go_meet
     exact ⟨by rw [← HTB.out, d3], rfl⟩
    ·have d2 : decide ((k : Int) < 3) = false := by simp; omega
     have d2' : decide (k < 3) = false := by simp; omega
     have d3 : decide (k < nq ∧ k < 3) = false := decide_eq_false (fun h => c2 h.2)
     clear c1 c2
     go_wp2_with fail
     go_meet
     exact ⟨by rw [← HTB.out, d3], rfl⟩
   ·have d1 : decide ((k : Int) < (nq : Int)) = false := by simp; omega
    have d1' : decide (k < nq) = false := by simp; omega
    have d3 : decide (k < nq ∧ k < 3) = false := decide_eq_false (fun h => c1 h.1)
    clear c1
    go_wp2_with fail
    go_meet
    exact ⟨by rw [← HTB.out, d3], rfl⟩
  case rest =>
   obtain ⟨rfl, rfl⟩ := hcut
   cases tb with
   | true =>
    obtain ⟨c1, c2⟩ : k < nq ∧ k < 3 := of_decide_eq_true HTB.out
    obtain ⟨ad, u, rfl, -, hu, -⟩ := Rd.cell (hI.at_ 5 rfl : Rd wc B 1 As nq (q.map bv) ∧ _).1 c1
    have hkl : k < q.length := by rw [HQN.out]; exact c1
    have HBK2 : Hid (baseK p q (k + 1) = signN (baseK p q k) q[k]) := Lib.hid (baseK_succ hkl)
    obtain ⟨s0, hs0⟩ : ∃ s0, s0 = wc.heap.size := ⟨_, rfl⟩
    have hJ : All wc [.ksn 64 (g3 + 1) A n c l, .cells g3 25 (envC sRec Ap m cp A n c), .cells (g + 1) 25 envZ, .cells g 27 (caseC Ap np cp (some ad) nq cq sp b), .low (.rd B 1 Ap m (pay.map bv)), .low (.rd B 1 (some ad) nq (q.map bv)), .kept w w.heap.size, .kept wc s0] := ⟨hI.at_ 0 rfl, hI.at_ 1 rfl, hI.at_ 2 rfl, hI.at_ 3 rfl, hI.at_ 4 rfl, hI.at_ 5 rfl, hI.at_ 6 rfl, ⟨Below.refl _ _, Nat.le_of_eq hs0⟩, trivial⟩
    have HG0 : Hid (g3 < s0) := Lib.hid (by rw [hs0]; exact Cells.lt (hI.at_ 1 rfl))
    have HF0 : Hid (∀ b, KsF l b → b < s0) := Lib.hid (fun b hb => by rw [hs0]; exact ((hI.at_ 0 rfl : Nest wc (g3 + 1) 64 20 A n c (l.map ksC).flatten 0 (KsF l) (KsI l)).fr b hb).2)
    have HQ : Hid (∀ W, All W [.ksn 64 (g3 + 1) A n c l, .cells g3 25 (envC sRec Ap m cp A n c), .cells (g + 1) 25 envZ, .cells g 27 (caseC Ap np cp (some ad) nq cq sp b), .low (.rd B 1 Ap m (pay.map bv)), .low (.rd B 1 (some ad) nq (q.map bv)), .kept w w.heap.size, .kept wc s0] → W.cell? (ad.add k) = some (bv q[k])) := Lib.hid (fun W hW => by
     obtain ⟨ad', u', e, -, hu', h⟩ := Rd.cell (hW.at_ 5 rfl : Rd W B 1 (some ad) nq (q.map bv) ∧ _).1 c1
     obtain rfl := Option.some.inj e
     rw [List.getElem?_map, List.getElem?_eq_getElem hkl] at hu'
     rw [h]; exact hu'.symm)
    clear hu hs0 hI
    generalize q[k] = bq at *
    clear hkl
    have wk0 : (0 : Int) ≤ (k : Int) := by omega
    have wk1 : (k : Int) < (nq : Int) := by omega
    have wk2 : ((k : Int)).toNat = k := by omega
    have hn3 : l.length ≤ 3 := by
     have h1 := (SgnI.base p q k hk3 (by rw [HQN.out]; exact hkq)).len
     rw [← HBK.out] at h1
     have h2 : (l.map Ks.s).length ≤ k := h1
     rw [List.length_map] at h2; omega
    have HN3 := Lib.hid hn3
    obtain ⟨S, hS⟩ : ∃ S, (signE ⟨sRec, pay, l.map Ks.s⟩ (seedU bq) ((bq.toNat % 2 : Nat) : Int) 0) = S := ⟨_, rfl⟩
    have HSI : Hid (∃ s h' n', S.2.1 = siCells s h' n' ∧ s.length = 16) := Lib.hid (by rw [← hS]; exact signE_si _ _ _ _ rfl)
    have HSU : Hid ((S.2.2 = 0 → (⟨sRec, pay, S.1.sigs⟩ : EnvR) = baseK p q (k + 1)) ∧ (S.2.2 ≠ 0 → (⟨sRec, pay, l.map Ks.s⟩ : EnvR) = baseK p q (k + 1))) := Lib.hid (by
     rw [HBK2.out, ← HBK.out]
     unfold signN
     rw [hS]
     refine ⟨fun e => ?_, fun e => by rw [if_neg e]⟩
     rw [if_pos e]
     have e' := e
     rw [← hS] at e'
     obtain ⟨-, -, -, -, h5⟩ := signE_zero e'
     rw [← hS, h5])
    have HSN : Hid (∀ W, All W [.ksn 64 (g3 + 1) A n c l, .cells g3 25 (envC sRec Ap m cp A n c), .cells (g + 1) 25 envZ, .cells g 27 (caseC Ap np cp (some ad) nq cq sp b), .low (.rd B 1 Ap m (pay.map bv)), .low (.rd B 1 (some ad) nq (q.map bv)), .kept w w.heap.size, .kept wc s0] → Calls Try.prog 20 #[.agg (envC sRec Ap m cp A n c).toArray, .agg (siCells (seedU bq) ((bq.toNat % 2 : Nat) : Int) 0).toArray] W fun e w' => ∃ cs', e = .returned (.tuple #[.agg cs'.toArray, .agg S.2.1.toArray, .int .i64 S.2.2]) ∧ Below W.heap.size W w' ∧ DetC 64 41 s0 Ap m cp n l S w' cs') := Lib.hid (fun W hW => by
     have hN : Nest W (g3 + 1) 64 20 A n c (l.map ksC).flatten 0 (KsF l) (KsI l) := hW.at_ 0 rfl
     have hs0W : s0 ≤ W.heap.size := (hW.at_ 7 rfl : _ ∧ s0 ≤ _).2
     have hP : Rd W B 1 Ap m (pay.map bv) ∧ B ≤ W.heap.size := hW.at_ 4 rfl
     have h1 := refSignE_det W W.heap.size sRec pay Ap m cp A n c l (seedU bq) ((bq.toNat % 2 : Nat) : Int) 0 HPM.out (hP.1.mono hP.2) (ksn_kss (hW.at_ 0 rfl) HLN.out) (by omega) (Nat.le_trans hcm (by decide)) hN.own.cap.1 hN.own.cap.2 rfl (by decide) (by rw [HPM.out]; omega) (by rw [List.length_map]; omega) (Nat.le_refl _)
     refine h1.mono ?_
     rw [hS]
     rintro e w' ⟨⟨cs', rfl, hEA, hbw⟩, hdt⟩
     refine ⟨cs', rfl, hbw, by have := hbw.size; omega, hEA.len, hEA.one, fun h0 => ?_⟩
     obtain ⟨A9, c9, x, pp, b6, he, hpp, hsg, hb6, hO, hxo, hxf⟩ := hdt h0
     have he0 : cs' = envC sRec Ap m cp A9 (n + 1) c9 := by
      injection he with he
      injection he with he
      have h2 := congrArg Array.toList he
      injection h2 with h2 _
      injection h2 with h2
      exact congrArg Array.toList h2
     exact ⟨A9, c9, x, pp, b6, he0, hpp, hsg, by omega, hO, hxo, fun b hb => ⟨by have := (hxf b hb).1; omega, (hxf b hb).2⟩, by
      rcases hO.2 with ⟨h3, h4⟩ | ⟨g', _, _, h3, h4, h5, _⟩
      ·cases h3
      ·have h6 := (Array.getElem?_eq_some_iff.1 h5).1
       omega⟩)
    clear hS
    go_upto_region 5 with (fail)
    refine wp_region_hops_late 22 18 20 [31, 32, 33, 34, 35, 36, 37, 38, 39, 40, 41, 42, 43, 44, 45, 46, 30, 47, 48, 49, 5, 6] _
     [.eq (.agg (envC sRec Ap m cp A n c).toArray), .eq (.pointer (some ⟨g, 1, none⟩)), .eq (.slice (some ad) nq cq), .eq (.int .i64 k), .eq (.pointer (some (ad.add k))), .eq (bv bq), .eq (.agg ((seedU bq).map bv).toArray), .eq (.pointer (some ⟨g, 1, none⟩)), .eq (.slice (some ad) nq cq), .eq (.int .i64 k), .eq (.pointer (some (ad.add k))), .eq (bv bq), .eq (.int .u8 ((bq.toNat % 2 : Nat) : Int)), .eq (.int .i64 ((bq.toNat % 2 : Nat) : Int)), .eq (.agg (siCells (seedU bq) ((bq.toNat % 2 : Nat) : Int) 0).toArray), .det 64 41 s0 Ap m cp n l S, .det 64 41 s0 Ap m cp n l S, .dec 64 41 s0 Ap m cp n l S, .eq (.agg S.2.1.toArray), .eq (.int .i64 S.2.2), .box s0 25 envZ, .box s0 43 siz]
     (by kernel_rfl) (by kernel_rfl) (fun _ t _ _ _ h => by cases t <;> exact h) hJ rfl ?hops ?flts ?fin
    case hops =>
     refine ⟨?_, ?_, ?_, ?_, ?_, ?_, ?_, ?_, ?_, ?_, ?_, ?_, ?_, ?_, ?_, ?_, ?_, ?_, ?_, ?_, ?_, ?_, trivial⟩
     ·intro a W hW hb hd K hK
      have b3 := hb 3 rfl
      refine wp_load_any 25 (.tmp 3) rfl ⟨g3, 0, none⟩ (show a.eval (.tmp 3) = _ from by simp only [Act.eval, Array.getD_eq_getD_getElem?]; exact b3) (envC sRec Ap m cp A n c) _ (Cells.sub (hW.at_ 1 rfl) 0 (fun j u h => by rwa [Nat.zero_add])) Try.underlying25 rfl (by kernel_rfl) ?_
      exact hK _ _ (World.grownBy.refl _ _) rfl
     ·intro a W hW hb hd K hK
      have b1 := hb 1 rfl
      go_simp
      exact hK _ _ (World.grownBy.refl _ _) rfl
     ·intro a W hW hb hd K hK
      have b32 : a.tmps[32]?.getD undef = _ := hd ⟨1, .data⟩ (by simp) rfl
      have q1 := (case_cells (hW.at_ 3 rfl)).2.1
      go_simp
      exact hK _ _ (World.grownBy.refl _ _) rfl
     ·intro a W hW hb hd K hK
      have b4 := hb 4 rfl
      go_simp
      exact hK _ _ (World.grownBy.refl _ _) rfl
     ·intro a W hW hb hd K hK
      have b33 : a.tmps[33]?.getD undef = _ := hd ⟨2, .data⟩ (by simp) rfl
      have b34 : a.tmps[34]?.getD undef = _ := hd ⟨3, .data⟩ (by simp) rfl
      go_simp
      exact hK _ _ (World.grownBy.refl _ _) rfl
     ·intro a W hW hb hd K hK
      have b35 : a.tmps[35]?.getD undef = _ := hd ⟨4, .data⟩ (by simp) rfl
      have q2 := HQ.out W hW
      go_simp
      exact hK _ _ (World.grownBy.refl _ _) rfl
     ·intro a W hW hb hd K hK
      have b36 : a.tmps[36]?.getD undef = _ := hd ⟨5, .data⟩ (by simp) rfl
      go_simp
      exact hK _ _ (World.grownBy.refl _ _) rfl
     ·intro a W hW hb hd K hK
      have b1 := hb 1 rfl
      go_simp
      exact hK _ _ (World.grownBy.refl _ _) rfl
     ·intro a W hW hb hd K hK
      have b38 : a.tmps[38]?.getD undef = _ := hd ⟨7, .data⟩ (by simp) rfl
      have q1 := (case_cells (hW.at_ 3 rfl)).2.1
      go_simp
      exact hK _ _ (World.grownBy.refl _ _) rfl
     ·intro a W hW hb hd K hK
      have b4 := hb 4 rfl
      go_simp
      exact hK _ _ (World.grownBy.refl _ _) rfl
     ·intro a W hW hb hd K hK
      have b39 : a.tmps[39]?.getD undef = _ := hd ⟨8, .data⟩ (by simp) rfl
      have b40 : a.tmps[40]?.getD undef = _ := hd ⟨9, .data⟩ (by simp) rfl
      go_simp
      exact hK _ _ (World.grownBy.refl _ _) rfl
     ·intro a W hW hb hd K hK
      have b41 : a.tmps[41]?.getD undef = _ := hd ⟨10, .data⟩ (by simp) rfl
      have q2 := HQ.out W hW
      go_simp
      exact hK _ _ (World.grownBy.refl _ _) rfl
     ·intro a W hW hb hd K hK
      have b42 : a.tmps[42]?.getD undef = _ := hd ⟨11, .data⟩ (by simp) rfl
      go_simp
      exact hK _ _ (World.grownBy.refl _ _) rfl
     ·intro a W hW hb hd K hK
      have b43 : a.tmps[43]?.getD undef = _ := hd ⟨12, .data⟩ (by simp) rfl
      have hb2 : bq.toNat % 2 < 2 := Nat.mod_lt _ (by decide)
      go_simp
      refine hK _ _ (World.grownBy.refl _ _) ?_
      show Value.int .i64 _ = Value.int .i64 _
      refine congrArg (Value.int .i64) ?_
      rw [IntKind.wrap_i64]
      omega
     ·intro a W hW hb hd K hK
      have b37 : a.tmps[37]?.getD undef = _ := hd ⟨6, .data⟩ (by simp) rfl
      have b44 : a.tmps[44]?.getD undef = _ := hd ⟨13, .data⟩ (by simp) rfl
      refine wp_bld 43 [(0, .tmp 37), (1, .tmp 44)] rfl _ _ #[(0, 16), (16, 1), (17, 1)] (siCells (seedU bq) ((bq.toNat % 2 : Nat) : Int) 0).toArray zero_si Try.underlying43 (fun w => by kernel_rfl) (by simp only [List.map_cons, List.map_nil]; rw [show a.eval (.tmp 37) = _ from by simp only [Act.eval, Array.getD_eq_getD_getElem?]; exact b37, show a.eval (.tmp 44) = _ from by simp only [Act.eval, Array.getD_eq_getD_getElem?]; exact b44]; exact fill_si0 _ _ rfl) ?_
      exact hK _ _ (World.grownBy.refl _ _) rfl
     ·intro a W hW hb hd K hK
      have b31 : a.tmps[31]?.getD undef = _ := hd ⟨0, .data⟩ (by simp) rfl
      have b45 : a.tmps[45]?.getD undef = _ := hd ⟨14, .data⟩ (by simp) rfl
      have hsn := HSN.out W hW
      go_simp
      refine hsn.mono ?_
      rintro e w' ⟨cs', rfl, hbw, hdc⟩
      exact hK _ _ (grown_of_below hbw) ⟨cs', rfl, hdc⟩
     ·intro a W hW hb hd K hK
      have q46 : VF.ok (.det 64 41 s0 Ap m cp n l S) (a.tmps[46]?.getD undef) W := hd ⟨15, .data⟩ (by simp) rfl
      go_simp
      exact hK _ _ (World.grownBy.refl _ _) q46
     ·intro a W hW hb hd K hK
      obtain ⟨cs', q30, hdc⟩ := (hd ⟨16, .data⟩ (by simp) rfl : VF.ok (.det 64 41 s0 Ap m cp n l S) (a.tmps[30]?.getD undef) W)
      replace q30 : a.tmps[30]?.getD undef = _ := q30
      go_simp
      exact hK _ _ (World.grownBy.refl _ _) ⟨cs', rfl, hdc⟩
     ·intro a W hW hb hd K hK
      obtain ⟨cs', q30, hdc⟩ := (hd ⟨16, .data⟩ (by simp) rfl : VF.ok (.det 64 41 s0 Ap m cp n l S) (a.tmps[30]?.getD undef) W)
      replace q30 : a.tmps[30]?.getD undef = _ := q30
      go_simp
      exact hK _ _ (World.grownBy.refl _ _) rfl
     ·intro a W hW hb hd K hK
      obtain ⟨cs', q30, hdc⟩ := (hd ⟨16, .data⟩ (by simp) rfl : VF.ok (.det 64 41 s0 Ap m cp n l S) (a.tmps[30]?.getD undef) W)
      replace q30 : a.tmps[30]?.getD undef = _ := q30
      go_simp
      exact hK _ _ (World.grownBy.refl _ _) rfl
     ·intro a W hW hb hd K hK
      go_simp
      exact hK _ _ (grown_alloc _ _) ⟨_, rfl, (hW.at_ 7 rfl : _ ∧ s0 ≤ _).2, Cells.new _ _ _⟩
     ·intro a W hW hb hd K hK
      go_simp
      exact hK _ _ (grown_alloc _ _) ⟨_, rfl, (hW.at_ 7 rfl : _ ∧ s0 ≤ _).2, Cells.new _ _ _⟩
    case flts =>
     refine ⟨?_, ?_, trivial⟩
     ·intro a W hW hb hd
      obtain ⟨cs', q30, hdc⟩ := (hd ⟨16, .data⟩ (by simp) rfl : VF.ok (.det 64 41 s0 Ap m cp n l S) (a.tmps[30]?.getD undef) W)
      replace q30 : a.tmps[30]?.getD undef = _ := q30
      refine ⟨.agg S.2.1.toArray, .inl ⟨rfl, fun w => ?_⟩, rfl⟩
      go_simp
     ·intro a W hW hb hd
      obtain ⟨cs', q30, hdc⟩ := (hd ⟨16, .data⟩ (by simp) rfl : VF.ok (.det 64 41 s0 Ap m cp n l S) (a.tmps[30]?.getD undef) W)
      replace q30 : a.tmps[30]?.getD undef = _ := q30
      refine ⟨.int .i64 S.2.2, .inl ⟨rfl, fun w => ?_⟩, rfl⟩
      go_simp
    case fin =>
     intro vs V hV hv
     obtain ⟨cs', e17, hlo, hcl, hc1, hdc⟩ := (hv 17 (by decide) : VF.ok (.dec 64 41 s0 Ap m cp n l S) (vs 17) V)
     have e18 : vs 18 = _ := hv 18 (by decide)
     have e19 : vs 19 = _ := hv 19 (by decide)
     obtain ⟨g5, e20, hg5, hC5⟩ := (hv 20 (by decide) : VF.ok (.box s0 25 envZ) (vs 20) V)
     obtain ⟨g6, e21, hg6, hC6⟩ := (hv 21 (by decide) : VF.ok (.box s0 43 siz) (vs 21) V)
     clear hv hJ
     simp only [putAll, List.drop_succ_cons, List.drop_zero, e17, e18, e19, e20, e21, Act.put, List.setIfInBounds_toArray, List.set_cons_succ, List.set_cons_zero]
     clear e17 e18 e19 e20 e21
     have hg0 := HG0.out
     have hgg : g5 ≠ g6 := hC5.ne hC6 (by decide)
     obtain ⟨s', h', n', hsi, hs16⟩ := HSI.out
     have HSC := Lib.hid hsi
     have HS16 := Lib.hid hs16
     have hN : Nest V (g3 + 1) 64 20 A n c (l.map ksC).flatten 0 (KsF l) (KsI l) := hV.at_ 0 rfl
     clear hsi hs16
     rw [HSC.out]
     by_cases her : S.2.2 = 0
     ·have d1 : (S.2.2 == 0) = true := by simp [her]
      have HBN := Lib.hid (HSU.out.1 her)
      obtain ⟨A9, c9, x, pp, b6, rfl, hpp, hsg, hb6, hO, hxo, hxf, hb6V⟩ := hdc her
      have hln : (l.take pp ++ x :: l.drop pp).length = n + 1 := by
       have := HLN.out
       rw [List.length_append, List.length_cons, List.length_take, List.length_drop]; omega
      have hmem : ∀ y, y ∈ l.take pp ++ x :: l.drop pp → y ∈ l ∨ y = x := fun y hy => by
       rcases List.mem_append.1 hy with h | h
       ·exact .inl (List.mem_of_mem_take h)
       ·rcases List.mem_cons.1 h with h | h
        ·exact .inr h
        ·exact .inl (List.mem_of_mem_drop h)
      have hkf : ∀ b, KsF (l.take pp ++ x :: l.drop pp) b → KsF l b ∨ KsF [x] b := fun b hb => by
       obtain ⟨y, hy, h⟩ := hb
       rcases hmem y hy with h1 | h1
       ·exact .inl ⟨y, h1, h⟩
       ·exact .inr ⟨y, List.mem_singleton.2 h1, h⟩
      have hbd : ∀ b, KsF (l.take pp ++ x :: l.drop pp) b → g3 + 1 ≤ b ∧ b < b6 := fun b hb => by
       rcases hkf b hb with h | h
       ·exact ⟨(hN.fr b h).1, by have := HF0.out b h; omega⟩
       ·exact ⟨by have := (hxf b h).1; omega, (hxf b h).2.1⟩
      have hnk : (Res.ksn 64 (g3 + 1) A9 (n + 1) c9 (l.take pp ++ x :: l.drop pp)).ok V := Nest.of (hO.less (by omega)) (fun y hy => (hmem y hy).elim (fun h => hN.inn y h) (fun h => by rw [h]; exact hxo)) (KsI.st _) (fun b hb => ⟨(hbd b hb).1, by have := (hbd b hb).2; omega, fun e => by have := (hO.lt e).1; have := (hbd b hb).2; omega⟩)
      have hf5 : ∀ b, KsF (l.take pp ++ x :: l.drop pp) b → b ≠ g5 ∧ b ≠ g6 := fun b hb => by
       rcases hkf b hb with h | h
       ·have := HF0.out b h
        exact ⟨by omega, by omega⟩
       ·exact ⟨fun e => (e ▸ (hxf b h).2.2).ne hC5 (by decide), fun e => (e ▸ (hxf b h).2.2).ne hC6 (by decide)⟩
      have ha5 : (Res.ksn 64 (g3 + 1) A9 (n + 1) c9 (l.take pp ++ x :: l.drop pp)).apart (some g5) := fun q hq => by
       injection hq with hq
       subst hq
       exact ⟨Nat.zero_le _, .inr ⟨hO.ne_cells hC5 (by decide), fun hF => (hf5 _ hF).1 rfl⟩⟩
      have ha6 : (Res.ksn 64 (g3 + 1) A9 (n + 1) c9 (l.take pp ++ x :: l.drop pp)).apart (some g6) := fun q hq => by
       injection hq with hq
       subst hq
       exact ⟨Nat.zero_le _, .inr ⟨hO.ne_cells hC6 (by decide), fun hF => (hf5 _ hF).2 rfl⟩⟩
      rw [hsg] at HBN
      have HLN9 := Lib.hid hln
      have hV1 : All V (.cells g5 25 envZ :: .cells g6 43 siz :: .ksn 64 (g3 + 1) A9 (n + 1) c9 (l.take pp ++ x :: l.drop pp) :: [.ksn 64 (g3 + 1) A n c l, .cells g3 25 (envC sRec Ap m cp A n c), .cells (g + 1) 25 envZ, .cells g 27 (caseC Ap np cp (some ad) nq cq sp b), .low (.rd B 1 Ap m (pay.map bv)), .low (.rd B 1 (some ad) nq (q.map bv)), .kept w w.heap.size, .kept wc s0].tail) := ⟨hC5, hC6, hnk, hV.2⟩
      generalize l.take pp ++ x :: l.drop pp = l9 at *
      simp only [List.tail_cons] at hV1
      clear hV hC5 hC6 hnk hN hO hxo hxf hbd hkf hmem hf5 hln hsg hdc
      generalize S.2.2 = er at *
      refine wl_store_at hV1 0 rfl 25 (.tmp 5) (.tmp 47) rfl g5 _ _ (envC sRec Ap m cp A9 (n + 1) c9) rfl rfl rfl rfl (by kernel_rfl) (envC_one _ _ _ _ _ _ _) ⟨by simp [Res.apart, hgg.symm], ha5, by simp [Res.apart] <;> omega, by simp [Res.apart] <;> omega, by simp [Res.apart] <;> omega, by simp [Res.apart, Low.rd] <;> omega, by simp [Res.apart, Low.rd] <;> omega, by simp [Res.apart] <;> omega, by simp [Res.apart] <;> omega, trivial⟩ ?_
      intro V2 hV2 hs2
      refine wl_store_at hV2 1 rfl 43 (.tmp 6) (.tmp 48) rfl g6 _ _ (siCells s' h' n') rfl rfl rfl (by rw [si_len _ _ _ HS16.out]; rfl) (by rw [si_len _ _ _ HS16.out]; kernel_rfl) (si_one _ _ _) ⟨by simp [Res.apart, hgg], ha6, by simp [Res.apart] <;> omega, by simp [Res.apart] <;> omega, by simp [Res.apart] <;> omega, by simp [Res.apart, Low.rd] <;> omega, by simp [Res.apart, Low.rd] <;> omega, by simp [Res.apart] <;> omega, by simp [Res.apart] <;> omega, trivial⟩ ?_
      intro V3 hV3 hs3
      simp only [List.set_cons_zero, List.set_cons_succ] at hV3
      clear hV1 hV2 hs2 hs3 ha5 ha6
      have hV5 : All V3 (.cells g5 25 (envC sRec Ap m cp A9 (n + 1) c9) :: .cells g6 43 (siCells s' h' n') :: .ksn 64 (g3 + 1) A9 (n + 1) c9 l9 :: [.cells g3 25 (envC sRec Ap m cp A n c), .cells (g + 1) 25 envZ, .cells g 27 (caseC Ap np cp (some ad) nq cq sp b), .low (.rd B 1 Ap m (pay.map bv)), .low (.rd B 1 (some ad) nq (q.map bv)), .kept w w.heap.size]) := ⟨hV3.at_ 0 rfl, hV3.at_ 1 rfl, hV3.at_ 2 rfl, hV3.at_ 3 rfl, hV3.at_ 4 rfl, hV3.at_ 5 rfl, hV3.at_ 6 rfl, hV3.at_ 7 rfl, hV3.at_ 8 rfl, trivial⟩
      clear hV3
      go_wp2_with (first
       | (refine wl_load_any rfl 25 (.tmp 5) rfl ⟨g5, 0, none⟩ rfl (envC sRec Ap m cp A9 (n + 1) c9) _ (Cells.sub (hV5.at_ 0 rfl) 0 (fun j u h => by rwa [Nat.zero_add])) Try.underlying25 rfl (by kernel_rfl) ?_)
       | (refine wl_store_at hV5 3 rfl 25 (.tmp 3) (.tmp 52) rfl g3 _ _ (envC sRec Ap m cp A9 (n + 1) c9) rfl rfl rfl rfl (by kernel_rfl) (envC_one _ _ _ _ _ _ _) ⟨by simp [Res.apart] <;> omega, by simp [Res.apart] <;> omega, ksn_below (by omega), by simp [Res.apart] <;> omega, by simp [Res.apart] <;> omega, by simp [Res.apart, Low.rd] <;> omega, by simp [Res.apart, Low.rd] <;> omega, by simp [Res.apart] <;> omega, trivial⟩ ?_; intro V4 hV4 hs4; simp only [List.set_cons_zero, List.set_cons_succ] at hV4))
      exact ⟨⟨k + 1, n + 1, c9, A9, l9, by omega, by omega, by go_num, HBN, HLN9, hV4.at_ 2 rfl, hV4.at_ 3 rfl, hV4.at_ 4 rfl, hV4.at_ 5 rfl, hV4.at_ 6 rfl, hV4.at_ 7 rfl, hV4.at_ 8 rfl, trivial⟩, by simp [intOf]; omega⟩
     ·have d1 : (S.2.2 == 0) = false := by simp [her]
      have HBN := Lib.hid (HSU.out.2 her)
      obtain ⟨v1, v2, v3, rfl⟩ : ∃ v1 v2 v3, cs' = [v1, v2, v3] := by
       match cs', hcl with
       | [v1, v2, v3], _ => exact ⟨v1, v2, v3, rfl⟩
      have ha5 : (Res.ksn 64 (g3 + 1) A n c l).apart (some g5) := fun q hq => by
       injection hq with hq
       subst hq
       exact ⟨Nat.zero_le _, .inr ⟨hN.own.ne_cells hC5 (by decide), fun hF => by have := HF0.out _ hF; omega⟩⟩
      have ha6 : (Res.ksn 64 (g3 + 1) A n c l).apart (some g6) := fun q hq => by
       injection hq with hq
       subst hq
       exact ⟨Nat.zero_le _, .inr ⟨hN.own.ne_cells hC6 (by decide), fun hF => by have := HF0.out _ hF; omega⟩⟩
      have hV1 : All V (.cells g5 25 envZ :: .cells g6 43 siz :: [.ksn 64 (g3 + 1) A n c l, .cells g3 25 (envC sRec Ap m cp A n c), .cells (g + 1) 25 envZ, .cells g 27 (caseC Ap np cp (some ad) nq cq sp b), .low (.rd B 1 Ap m (pay.map bv)), .low (.rd B 1 (some ad) nq (q.map bv)), .kept w w.heap.size, .kept wc s0]) := ⟨hC5, hC6, hV⟩
      have HC1 := Lib.hid hc1
      clear hV hC5 hC6 hN hdc hc1
      generalize S.2.2 = er at *
      refine wl_store_at hV1 0 rfl 25 (.tmp 5) (.tmp 47) rfl g5 _ _ [v1, v2, v3] rfl rfl rfl rfl (by kernel_rfl) HC1.out ⟨by simp [Res.apart, hgg.symm], ha5, by simp [Res.apart] <;> omega, by simp [Res.apart] <;> omega, by simp [Res.apart] <;> omega, by simp [Res.apart, Low.rd] <;> omega, by simp [Res.apart, Low.rd] <;> omega, by simp [Res.apart] <;> omega, by simp [Res.apart] <;> omega, trivial⟩ ?_
      intro V2 hV2 hs2
      refine wl_store_at hV2 1 rfl 43 (.tmp 6) (.tmp 48) rfl g6 _ _ (siCells s' h' n') rfl rfl rfl (by rw [si_len _ _ _ HS16.out]; rfl) (by rw [si_len _ _ _ HS16.out]; kernel_rfl) (si_one _ _ _) ⟨by simp [Res.apart, hgg], ha6, by simp [Res.apart] <;> omega, by simp [Res.apart] <;> omega, by simp [Res.apart] <;> omega, by simp [Res.apart, Low.rd] <;> omega, by simp [Res.apart, Low.rd] <;> omega, by simp [Res.apart] <;> omega, by simp [Res.apart] <;> omega, trivial⟩ ?_
      intro V3 hV3 hs3
      simp only [List.set_cons_zero, List.set_cons_succ] at hV3
      clear hV1 hV2 hs2 hs3 ha5 ha6
      go_wp2_with fail
      exact ⟨⟨k + 1, n, c, A, l, by omega, by omega, by go_num, HBN, HLN, hV3.at_ 2 rfl, hV3.at_ 3 rfl, hV3.at_ 4 rfl, hV3.at_ 5 rfl, hV3.at_ 6 rfl, hV3.at_ 7 rfl, hV3.at_ 8 rfl, trivial⟩, by simp [intOf]; omega⟩
   | false =>
    have hkm : k = min nq 3 := by have := of_decide_eq_false HTB.out; omega
    have HBR : Hid ((⟨sRec, pay, l.map Ks.s⟩ : EnvR) = baseR p q) := Lib.hid (by rw [HBK.out, hkm]; unfold baseR; rw [HQN.out])
    have hn3 : n ≤ 3 := by
     have h1 := (baseR_ok p q).len
     rw [← HBR.out] at h1
     have h2 : (l.map Ks.s).length ≤ 3 := h1
     rw [List.length_map, HLN.out] at h2; exact h2
    clear hkm HTB HBK hk3 hkq q1
    have q3 := (env_cells sRec Ap m cp A n c (hI.at_ 1 rfl)).2.2
    by_cases hn0 : n = 0
    ·have d1 : ((n : Int) == 0) = true := by simp [hn0]
     have d1' : (n == 0) = true := by simp [hn0]
     clear hn0
     go_wp2_with (first
      | (refine wl_load_any rfl 25 (.tmp 3) rfl ⟨g3, 0, none⟩ rfl (envC sRec Ap m cp A n c) _ (Cells.sub (hI.at_ 1 rfl) 0 (fun j u h => by rwa [Nat.zero_add])) Try.underlying25 rfl (by kernel_rfl) ?_)
      | (refine wl_store_at hI 2 rfl 25 (.tmp 2) (.tmp 58) rfl (g + 1) _ _ (envC sRec Ap m cp A n c) rfl rfl rfl rfl (by kernel_rfl) (envC_one _ _ _ _ _ _ _) ⟨ksn_below (by omega), by simp [Res.apart] <;> omega, by simp [Res.apart] <;> omega, by simp [Res.apart, Low.rd] <;> omega, by simp [Res.apart, Low.rd] <;> omega, by simp [Res.apart] <;> omega, trivial⟩ ?_; intro W6 hW6 hs6; simp only [List.set_cons_zero, List.set_cons_succ] at hW6))
     refine bodyPost_ret (v := .agg (envC sRec Ap m cp A n c).toArray) ?_ rfl (md_end (kd := sRec) (ksn_kss (hW6.at_ 0 rfl) HLN.out) ((hW6.at_ 4 rfl : Rd W6 B 1 Ap m (pay.map bv) ∧ B ≤ W6.heap.size).1.mono (hW6.at_ 4 rfl : _ ∧ B ≤ W6.heap.size).2) HPM.out (by omega) (Nat.le_trans hcm (by decide)) (hW6.at_ 0 rfl : Nest W6 (g3 + 1) 64 20 A n c (l.map ksC).flatten 0 (KsF l) (KsI l)).own.cap (by rw [HBR.out]; exact SgnI.made) (hW6.at_ 6 rfl : _ ∧ _).1)
     exact results_cell_row rfl _ _ (g + 1) 25 (envC sRec Ap m cp A n c).toArray (0, 0) _ rfl (hW6.at_ 2 rfl) Try.underlying25 rfl (by kernel_rfl)
    ·have d1 : ((n : Int) == 0) = false := by simp; omega
     have d1' : (n == 0) = false := by simp; omega
     obtain ⟨-, -, q5, q4'⟩ := case_cells (hI.at_ 3 rfl)
     have q4 : wc.cell? ⟨g, 3, none⟩ = some (.int .u8 (b.toNat : Int)) := q4'
     clear q4'
     have hni : (n : Int) ≠ 0 := by omega
     go_upto_region 12 with fail
     obtain ⟨j, hj, hjn⟩ : ∃ j : Nat, (wrap64 (b.toNat : Int)).tmod (n : Int) = (j : Int) ∧ j < n := ⟨b.toNat % n, by
      have h1 := b.toNat_lt
      rw [show wrap64 (b.toNat : Int) = (b.toNat : Int) from by unfold wrap64; omega]
      rfl, Nat.mod_lt _ (by omega)⟩
     simp only [hj]
     clear hj q3 q4 q5 hni d1 d1'
     obtain ⟨g7, hg7⟩ : ∃ g7, g7 = wc.heap.size := ⟨_, rfl⟩
     have hN : Nest wc (g3 + 1) 64 20 A n c (l.map ksC).flatten 0 (KsF l) (KsI l) := hI.at_ 0 rfl
     have hg37 : g3 < g7 := by rw [hg7]; exact Cells.lt (hI.at_ 1 rfl)
     have HF7 : Hid (∀ b, KsF l b → g3 + 1 ≤ b ∧ b < g7) := Lib.hid (by rw [hg7]; exact hN.fr)
     have hown0 : Go.Adm.Own (wc.alloc (.cells #[] 64)) g7 64 20 (some ⟨g7, 0, none⟩) 0 0 [] := by rw [hg7]; exact Go.Adm.Own.lit wc #[] 0 (Nat.le_refl _) (by decide) rfl
     have hJ0 := hI.alloc (.cells #[] 64)
     have hN0 : Nest (wc.alloc (.cells #[] 64)) (g3 + 1) 64 20 A n c (l.map ksC).flatten 0 (KsF l) (KsI l) := hJ0.at_ 0 rfl
     have hJ : All (wc.alloc (.cells #[] 64)) (.own g7 64 20 (some ⟨g7, 0, none⟩) 0 0 [] :: .ksd (g3 + 1) l :: [.cells g3 25 (envC sRec Ap m cp A n c), .cells (g + 1) 25 envZ, .cells g 27 (caseC Ap np cp As nq cq sp b), .low (.rd B 1 Ap m (pay.map bv)), .low (.rd B 1 As nq (q.map bv)), .kept w w.heap.size]) := ⟨hown0, ksd_of hN0.inn hN0.fr, hJ0.2⟩
     have hrd := hN0.own.rd
     have q6 := (env_cells sRec Ap m cp A n c (hJ.at_ 2 rfl)).2.2
     have HG7 := Lib.hid hg7
     have hg7s : g7 ≤ (wc.alloc (.cells #[] 64)).heap.size := by rw [hg7]; simp
     have hone : ∀ u ∈ (l.map ksC).flatten, u.oneCell' = true := fun u hu => by
      obtain ⟨y, hy, hu⟩ := List.mem_flatten.1 hu
      obtain ⟨x, -, rfl⟩ := List.mem_map.1 hy
      exact ksC_one x u hu
     clear hg7 hN hown0 hJ0 hN0 hI
     go_upto_region 13 with (at_builtin; refine wl_app_at el_ks hJ 0 rfl (.tmp 64) (.tmp 66) rfl g7 (some ⟨g7, 0, none⟩) 0 0 [] rfl (by rw [HG7.out]; rfl) _ A n c _ rfl hrd hone (by omega) hg7s (fun q hq _ => ⟨ksd_apart (fun hF => by have := (HF7.out q hF).2; omega), by simp [Res.apart] <;> omega, by simp [Res.apart] <;> omega, by simp [Res.apart] <;> omega, by simp [Res.apart, Low.rd] <;> omega, by simp [Res.apart, Low.rd] <;> omega, by simp [Res.apart] <;> omega, trivial⟩) ?_; intro A5 c5 W5 hW5 hs5; simp only [List.set_cons_zero, Nat.zero_add, List.nil_append] at hW5 ⊢; have z5 := Cells.frozen (hW5.at_ 2 rfl) 2; have q7 := (env_cells sRec Ap m cp A n c (hW5.at_ 2 rfl)).2.2)
     refine wp_gen (hW5.store 2 rfl 2 (.slice A5 n c5) ⟨own_below (by omega), ksd_apart (fun hF => by have := (HF7.out _ hF).1; omega), by simp [Res.apart] <;> omega, by simp [Res.apart] <;> omega, by simp [Res.apart, Low.rd] <;> omega, by simp [Res.apart, Low.rd] <;> omega, by simp [Res.apart] <;> omega, trivial⟩) ?_
     rw [env_set2]
     intro W6 hW6
     simp only [List.set_cons_zero, List.set_cons_succ] at hW6
     clear hW5 hs5 z5 q7 hJ hrd q6 hg7s hone HG7
     have q5 := (case_cells (hW6.at_ 4 rfl)).2.2.1
     go_upto_region 14 with fail
     simp only [spoilK_wrap]
     have HSK := Lib.hid (spoilK_cases sp)
     obtain ⟨sk, hsk⟩ : ∃ sk, spoilK sp = sk := ⟨_, rfl⟩
     rw [hsk] at HSK ⊢
     have HSE := Lib.hid hsk
     have hsc := HSK.out
     clear hsk HSK q5
     have HEA : Hid (pay.length = m ∧ (l.map Ks.s).length ≤ 3 ∧ ∀ s ∈ l.map Ks.s, s.chain.length = 68 ∧ s.path.length ≤ 6) := Lib.hid (by
      have h1 : MadeR p q 0 ⟨sRec, pay, l.map Ks.s⟩ := by rw [HBR.out]; exact SgnI.made
      exact ⟨HPM.out, h1.len, h1.each⟩)
     obtain ⟨G, rfl, hG7⟩ := own_form (hW6.at_ 0 rfl) hn0
     rcases hsc with rfl | rfl | rfl | rfl | rfl | rfl
     ·go_wp2_with (first
      | (refine wl_load_any rfl 25 (.tmp 3) rfl ⟨g3, 0, none⟩ rfl (envC sRec Ap m cp (some ⟨G, 0, none⟩) n c5) _ (Cells.sub (hW6.at_ 2 rfl) 0 (fun j u h => by rwa [Nat.zero_add])) Try.underlying25 rfl (by kernel_rfl) ?_)
      | (refine wl_store_at hW6 3 rfl 25 (.tmp 2) (.tmp 154) rfl (g + 1) _ _ (envC sRec Ap m cp (some ⟨G, 0, none⟩) n c5) rfl rfl rfl rfl (by kernel_rfl) (envC_one _ _ _ _ _ _ _) ⟨own_below (by omega), ksd_apart (fun hF => by have := (HF7.out _ hF).1; omega), by simp [Res.apart] <;> omega, by simp [Res.apart] <;> omega, by simp [Res.apart, Low.rd] <;> omega, by simp [Res.apart, Low.rd] <;> omega, by simp [Res.apart] <;> omega, trivial⟩ ?_; intro W6 hW6 hs6; simp only [List.set_cons_zero, List.set_cons_succ] at hW6))
      refine bodyPost_ret (v := .agg (envC sRec Ap m cp (some ⟨G, 0, none⟩) n c5).toArray) ?_ rfl (md_end (kd := sRec) (kss_own (hW6.at_ 0 rfl) (hW6.at_ 1 rfl : Nest _ _ _ _ _ _ _ _ _ _ _).inn HLN.out) ((hW6.at_ 5 rfl : Rd W6 B 1 Ap m (pay.map bv) ∧ B ≤ W6.heap.size).1.mono (hW6.at_ 5 rfl : _ ∧ B ≤ W6.heap.size).2) HPM.out (by omega) (Nat.le_trans hcm (by decide)) (hW6.at_ 0 rfl : Go.Adm.Own W6 g7 64 20 (some ⟨G, 0, none⟩) n c5 _).cap (by rw [HBR.out]; exact SgnI.made) (hW6.at_ 7 rfl : _ ∧ _).1)
      exact results_cell_row rfl _ _ (g + 1) 25 (envC sRec Ap m cp (some ⟨G, 0, none⟩) n c5).toArray (0, 0) _ rfl (hW6.at_ 3 rfl) Try.underlying25 rfl (by kernel_rfl)
     ·have hjl : j < l.length := by rw [HLN.out]; exact hjn
      have wj0 : (0 : Int) ≤ (j : Int) := by omega
      have wj1 : (j : Int) < (n : Int) := by omega
      have wj2 : ((j : Int)).toNat = j := by omega
      have hki := (hW6.at_ 1 rfl : Nest _ _ _ _ _ _ _ _ _ _ _).inn
      have hx := hki l[j] (List.getElem_mem hjl)
      have HC68 : Hid (l[j].chain.length = 68) := Lib.hid (HEA.out.2.2 _ (List.mem_map_of_mem (List.getElem_mem hjl))).1
      have hlen : ∀ e ∈ l.map ksC, e.length = 20 := fun e he => by
       obtain ⟨z, hz, rfl⟩ := List.mem_map.1 he
       exact ksC_len (hki z hz).r16
      have HSG : Hid (∀ W : World, Go.Adm.Own W g7 64 20 (some ⟨G, 0, none⟩) n c5 (l.map ksC).flatten → ∀ q s, (sgCells l[j].leaf l[j].Ac l[j].chain.length l[j].cc l[j].Ap l[j].path.length l[j].cp)[q]? = some s → W.cell? ((⟨G, j * 20 + 17, none⟩ : Addr).add q) = some s) := Lib.hid (fun W hW q s hs => by
       have hq : q < 3 := (List.getElem?_eq_some_iff.1 hs).1
       rw [add_litG, World.ownsRow.cellAt hW (j * 20 + 17 + q) (by omega), Nat.add_assoc, flat_get (by omega) (l.map ksC) j (by simpa using hjl) hlen, List.getElem_map]
       show (pkCells l[j].h l[j].r ++ _)[17 + q]? = some s
       have hp : (pkCells l[j].h l[j].r).length = 17 := pkLen hx.r16
       rw [List.getElem?_append_right (by omega), hp, Nat.add_sub_cancel_left]
       exact hs)
      have HCH : Hid (∀ W, KsI l W → Rd W W.heap.size 16 l[j].Ac l[j].chain.length (hvs l[j].chain).flatten) := Lib.hid (fun W h => (h _ (List.getElem_mem hjl)).rc.1)
      have HPUT := Lib.hid (ks_mid l j hjl hlen hx.r16)
      have HKI1 : Hid (∀ W A8 c8 ch1, KsI l W → Els W W.heap.size 16 A8 ch1.length (hvs ch1) → (∀ y ∈ ch1, y.length = 16) → ch1.length ≤ c8 ∧ c8 ≤ maxLen → KsI (l.set j { l[j] with Ac := A8, cc := c8, chain := ch1 }) W) := Lib.hid (fun W A8 c8 ch1 h he hy hc z hz => by
       rcases List.mem_or_eq_of_mem_set hz with h1 | rfl
       ·exact h z h1
       ·have h2 := h _ (List.getElem_mem hjl)
        exact ⟨h2.r16, he, hy, hc, h2.rp, h2.p16, h2.cp⟩)
      have HALT : Hid (∀ A8 c8 ch1, ch1.length = l[j].chain.length → MadeR p q sp ⟨sRec, pay, (l.set j { l[j] with Ac := A8, cc := c8, chain := ch1 }).map Ks.s⟩) := Lib.hid (fun A8 c8 ch1 hc => by
       have h1 : MadeR p q 0 ⟨sRec, pay, l.map Ks.s⟩ := by rw [HBR.out]; exact SgnI.made
       have h2 := h1.alter (sp := sp) (k := j) (y := Ks.s { l[j] with Ac := A8, cc := c8, chain := ch1 }) (by show j < (l.map Ks.s).length; rw [List.length_map]; exact hjl) (by simp only [List.getElem_map]; exact hc) (by simp only [List.getElem_map]; rfl) (by simp only [List.getElem_map]; rfl) (by simp only [List.getElem_map]; rfl) (by simp only [List.getElem_map]; rfl) (by rw [HSE.out]; decide)
       rw [List.map_set]
       exact h2)
      obtain ⟨c0, hc0, hch⟩ := chain_put hx.c16 (by rw [HC68.out]; decide)
      have HC0 := Lib.hid hc0
      have HCP := Lib.hid hch
      have HON : Hid (∀ u ∈ (hvs l[j].chain).flatten, u.oneCell' = true) := Lib.hid (fun u hu => by
       obtain ⟨y, hy, hu⟩ := List.mem_flatten.1 hu
       obtain ⟨z, -, rfl⟩ := List.mem_map.1 hy
       exact bv_one z u hu)
      clear hki hx hlen hc0 hch
      generalize l[j] = x at *
      obtain ⟨g10, hg10⟩ : ∃ g10, g10 = W6.heap.size := ⟨_, rfl⟩
      have hGg : G < g10 := by rw [hg10]; exact ((hW6.at_ 0 rfl : Go.Adm.Own W6 g7 64 20 (some ⟨G, 0, none⟩) n c5 _).lt rfl).2
      have HG10 := Lib.hid hg10
      clear hg10
      have q6 := (env_cells sRec Ap m cp (some ⟨G, 0, none⟩) n c5 (hW6.at_ 2 rfl)).2.2
      go_upto_region 16 with (first
       | (refine wl_load_any rfl 60 (.tmp 80) rfl ⟨G, j * 20 + 17, none⟩ rfl (sgCells x.leaf x.Ac x.chain.length x.cc x.Ap x.path.length x.cp) _ (HSG.out W6 (hW6.at_ 0 rfl)) Try.underlying60 rfl (by kernel_rfl) ?_)
       | (rw [← HG10.out]; refine wl_store_at (hW6.new (l := sgz) (g := g10) _ 60 HG10.out rfl) 0 rfl 60 (.tmp 10) (.tmp 81) rfl g10 _ _ (sgCells x.leaf x.Ac x.chain.length x.cc x.Ap x.path.length x.cp) rfl rfl rfl rfl (by kernel_rfl) (sg_one _ _ _ _ _ _ _) (hW6.fresh (by rw [HG10.out]; exact Nat.le_refl _) rfl) ?_; intro W7 hW7 hs7; clear hs7; simp only [List.set_cons_zero] at hW7))
      clear q6 hW6 HSG
      obtain ⟨g11, hg11⟩ : ∃ g11, g11 = W7.heap.size := ⟨_, rfl⟩
      have hg1011 : g10 < g11 := by rw [hg11]; exact Cells.lt (hW7.at_ 0 rfl)
      have hown0 : Go.Adm.Own (W7.alloc (.cells #[] 41)) g11 41 16 (some ⟨g11, 0, none⟩) 0 0 [] := by rw [hg11]; exact Go.Adm.Own.lit W7 #[] 0 (Nat.le_refl _) (by decide) rfl
      have hJ0 := hW7.alloc (.cells #[] 41)
      have hJ : All (W7.alloc (.cells #[] 41)) (.own g11 41 16 (some ⟨g11, 0, none⟩) 0 0 [] :: .cells g10 60 (sgCells x.leaf x.Ac x.chain.length x.cc x.Ap x.path.length x.cp) :: [.own g7 64 20 (some ⟨G, 0, none⟩) n c5 (l.map ksC).flatten, .ksd (g3 + 1) l, .cells g3 25 (envC sRec Ap m cp (some ⟨G, 0, none⟩) n c5), .cells (g + 1) 25 envZ, .cells g 27 (caseC Ap np cp As nq cq sp b), .low (.rd B 1 Ap m (pay.map bv)), .low (.rd B 1 As nq (q.map bv)), .kept w w.heap.size]) := ⟨hown0, hJ0⟩
      have hrd := HCH.out _ (hJ.at_ 3 rfl : Nest _ _ _ _ _ _ _ _ _ _ _).inn
      have q6 : (W7.alloc (.cells #[] 41)).cell? ⟨g10, 1, none⟩ = some (.slice x.Ac x.chain.length x.cc) := cellOf (hJ.at_ 1 rfl) (i := 1) rfl
      have HG11 := Lib.hid hg11
      have hg11s : g11 ≤ (W7.alloc (.cells #[] 41)).heap.size := by rw [hg11]; simp
      clear hg11 hown0 hJ0 hW7
      go_upto_region 17 with (at_builtin; refine wl_app_at els_half hJ 0 rfl (.tmp 82) (.tmp 84) rfl g11 (some ⟨g11, 0, none⟩) 0 0 [] rfl (by simp [Act.eval, HG11.out]) _ x.Ac x.chain.length x.cc _ rfl hrd HON.out (by rw [HC68.out]; decide) hg11s (fun qq hq _ => ⟨by simp [Res.apart] <;> omega, own_not (fun e => absurd (show G = qq by simpa [Value.ownBlock] using e) (by omega)), ksd_apart (fun hF => by have := (HF7.out _ hF).2; omega), by simp [Res.apart] <;> omega, by simp [Res.apart] <;> omega, by simp [Res.apart] <;> omega, by simp [Res.apart, Low.rd] <;> omega, by simp [Res.apart, Low.rd] <;> omega, by simp [Res.apart] <;> omega, trivial⟩) ?_; intro A8 c8 W8 hW8 hs8; simp only [List.set_cons_zero, Nat.zero_add, List.nil_append] at hW8 ⊢; have z8 := Cells.frozen (hW8.at_ 1 rfl) 1; have q8 : W8.cell? ⟨g10, 1, none⟩ = some (.slice x.Ac x.chain.length x.cc) := cellOf (hW8.at_ 1 rfl) (i := 1) rfl)
      refine wp_gen (hW8.store 1 rfl 1 (.slice A8 x.chain.length c8) ⟨own_below (by omega), own_not (fun e => absurd (show G = g10 by simpa [Value.ownBlock] using e) (by omega)), ksd_apart (fun hF => by have := (HF7.out _ hF).2; omega), by simp [Res.apart] <;> omega, by simp [Res.apart] <;> omega, by simp [Res.apart] <;> omega, by simp [Res.apart, Low.rd] <;> omega, by simp [Res.apart, Low.rd] <;> omega, by simp [Res.apart] <;> omega, trivial⟩) ?_
      rw [show (sgCells x.leaf x.Ac x.chain.length x.cc x.Ap x.path.length x.cp).set 1 (.slice A8 x.chain.length c8) = sgCells x.leaf A8 x.chain.length c8 x.Ap x.path.length x.cp from rfl]
      intro W9 hW9
      simp only [List.set_cons_zero, List.set_cons_succ] at hW9
      clear hW8 hs8 z8 q8 hJ hrd q6 hg11s HG11
      obtain ⟨G8, rfl, hG8⟩ := own_form (hW9.at_ 0 rfl) (by rw [HC68.out]; decide)
      have HQ1 : Hid (∀ W, All W [.own g11 41 16 (some ⟨G8, 0, none⟩) x.chain.length c8 (hvs x.chain).flatten, .cells g10 60 (sgCells x.leaf (some ⟨G8, 0, none⟩) x.chain.length c8 x.Ap x.path.length x.cp), .own g7 64 20 (some ⟨G, 0, none⟩) n c5 (l.map ksC).flatten, .ksd (g3 + 1) l, .cells g3 25 (envC sRec Ap m cp (some ⟨G, 0, none⟩) n c5), .cells (g + 1) 25 envZ, .cells g 27 (caseC Ap np cp As nq cq sp b), .low (.rd B 1 Ap m (pay.map bv)), .low (.rd B 1 As nq (q.map bv)), .kept w w.heap.size] → W.cell? ⟨G8, 0, none⟩ = some (.int .u8 (c0.toNat : Int))) := Lib.hid (fun W hW => by
       rw [World.ownsRow.cellAt (hW.at_ 0 rfl : Go.Adm.Own W g11 41 16 (some ⟨G8, 0, none⟩) x.chain.length c8 _) 0 (by rw [HC68.out]; decide)]
       exact HC0.out)
      refine wp_region_hops 10 [87, 88, 89, 90, 91, 92, 93, 94, 95, 96] _
       [.eq (.pointer (some ⟨g10, 1, none⟩)), .eq (.slice (some ⟨G8, 0, none⟩) x.chain.length c8), .eq (.pointer (some ⟨G8, 0, none⟩)), .eq (.pointer (some ⟨G8, 0, none⟩)), .eq (.int .u8 (c0.toNat : Int)), .eq (.pointer (some ⟨g, 3, none⟩)), .eq (.int .u8 (b.toNat : Int)), .eq (.int .u8 (bits .xor .u8 (c0.toNat : Int) (b.toNat : Int))), .eq (.pointer (some ⟨G8, 0, none⟩)), .eq (.pointer (some ⟨G8, 0, none⟩))]
       (by kernel_rfl) (by kernel_rfl) hW9 rfl ?hops ?fin
      case hops =>
       refine ⟨?_, ?_, ?_, ?_, ?_, ?_, ?_, ?_, ?_, ?_, trivial⟩
       ·intro a W hW hb hd K hK
        have b10 := hb 10 rfl
        go_simp
        exact hK _ _ (World.grownBy.refl _ _) rfl
       ·intro a W hW hb hd K hK
        have b87 : a.tmps[87]?.getD undef = _ := hd ⟨0, .data⟩ (by simp) rfl
        have q1 : W.cell? ⟨g10, 1, none⟩ = some (.slice (some ⟨G8, 0, none⟩) x.chain.length c8) := cellOf (hW.at_ 1 rfl) (i := 1) rfl
        go_simp
        exact hK _ _ (World.grownBy.refl _ _) rfl
       ·intro a W hW hb hd K hK
        have b88 : a.tmps[88]?.getD undef = _ := hd ⟨1, .data⟩ (by simp) rfl
        have hc0 := HC68.out
        go_simp
        exact hK _ _ (World.grownBy.refl _ _) rfl
       ·intro a W hW hb hd K hK
        have b89 : a.tmps[89]?.getD undef = _ := hd ⟨2, .data⟩ (by simp) rfl
        go_simp
        exact hK _ _ (World.grownBy.refl _ _) rfl
       ·intro a W hW hb hd K hK
        have b90 : a.tmps[90]?.getD undef = _ := hd ⟨3, .data⟩ (by simp) rfl
        have q1 := HQ1.out W hW
        go_simp
        exact hK _ _ (World.grownBy.refl _ _) rfl
       ·intro a W hW hb hd K hK
        have b1 := hb 1 rfl
        go_simp
        exact hK _ _ (World.grownBy.refl _ _) rfl
       ·intro a W hW hb hd K hK
        have b92 : a.tmps[92]?.getD undef = _ := hd ⟨5, .data⟩ (by simp) rfl
        have q1 : W.cell? ⟨g, 3, none⟩ = some (.int .u8 (b.toNat : Int)) := (case_cells (hW.at_ 6 rfl)).2.2.2
        go_simp
        exact hK _ _ (World.grownBy.refl _ _) rfl
       ·intro a W hW hb hd K hK
        have b91 : a.tmps[91]?.getD undef = _ := hd ⟨4, .data⟩ (by simp) rfl
        have b93 : a.tmps[93]?.getD undef = _ := hd ⟨6, .data⟩ (by simp) rfl
        go_simp
        exact hK _ _ (World.grownBy.refl _ _) rfl
       ·intro a W hW hb hd K hK
        have b88 : a.tmps[88]?.getD undef = _ := hd ⟨1, .data⟩ (by simp) rfl
        have hc0 := HC68.out
        go_simp
        exact hK _ _ (World.grownBy.refl _ _) rfl
       ·intro a W hW hb hd K hK
        have b95 : a.tmps[95]?.getD undef = _ := hd ⟨8, .data⟩ (by simp) rfl
        go_simp
        exact hK _ _ (World.grownBy.refl _ _) rfl
      case fin =>
       intro vs V hV hv
       have e7 : vs 7 = _ := hv 7 (by decide)
       have e9 : vs 9 = _ := hv 9 (by decide)
       clear hv hW9
       simp only [putAll, List.drop_succ_cons, List.drop_zero, e7, e9, Act.put, List.setIfInBounds_toArray, List.set_cons_succ, List.set_cons_zero]
       clear e7 e9
       rw [u8x]
       have zf := World.ownsRow.frozenAt (hV.at_ 0 rfl : Go.Adm.Own V g11 41 16 (some ⟨G8, 0, none⟩) x.chain.length c8 _) 0
       have qf := HQ1.out V hV
       obtain ⟨ch1, hl1, h16, hset⟩ := HCP.out (c0 ^^^ b)
       have HL1 := Lib.hid hl1
       have H16 := Lib.hid h16
       have HST := Lib.hid hset
       clear hl1 h16 hset HQ1
       go_upto_region 18 with fail
       refine wp_gen (All.put hV 0 rfl 0 (bv (c0 ^^^ b)) ⟨by simp [Res.apart] <;> omega, own_not (fun e => absurd (show G = G8 by simpa [Value.ownBlock] using e) (by omega)), ksd_apart (fun hF => by have := (HF7.out _ hF).2; omega), by simp [Res.apart] <;> omega, by simp [Res.apart] <;> omega, by simp [Res.apart] <;> omega, by simp [Res.apart, Low.rd] <;> omega, by simp [Res.apart, Low.rd] <;> omega, by simp [Res.apart] <;> omega, trivial⟩) ?_
       rw [HST.out]
       intro W10 hW10
       simp only [List.set_cons_zero, List.set_cons_succ] at hW10
       clear hV zf qf HST
       have q1 := (env_cells sRec Ap m cp (some ⟨G, 0, none⟩) n c5 (hW10.at_ 4 rfl)).2.2
       have hlr := (hW10.at_ 2 rfl : Go.Adm.Own W10 g7 64 20 (some ⟨G, 0, none⟩) n c5 (l.map ksC).flatten).1
       have HKF : Hid (∀ W, KsI l W → Go.Adm.Own W g11 41 16 (some ⟨G8, 0, none⟩) x.chain.length c8 (hvs ch1).flatten → KsI (l.set j { x with Ac := some ⟨G8, 0, none⟩, cc := c8, chain := ch1 }) W) := Lib.hid (fun W h ho => HKI1.out W _ c8 ch1 h (by rw [HL1.out]; exact Els.of ho (hvs_each H16.out) (by rw [hvs_len]; exact HL1.out)) H16.out (by rw [HL1.out]; exact ho.cap))
       have HLN5 : Hid ((l.set j { x with Ac := some ⟨G8, 0, none⟩, cc := c8, chain := ch1 }).length = n) := Lib.hid (by rw [List.length_set]; exact HLN.out)
       have HM5 := Lib.hid (HALT.out (some ⟨G8, 0, none⟩) c8 ch1 HL1.out)
       have HP5 := Lib.hid (HPUT.out (some ⟨G8, 0, none⟩) c8 ch1 HL1.out)
       generalize l.set j { x with Ac := some ⟨G8, 0, none⟩, cc := c8, chain := ch1 } = l5 at *
       go_upto_region 27 with (first
        | (refine wl_load_any rfl 60 (.tmp 10) rfl ⟨g10, 0, none⟩ rfl (sgCells x.leaf (some ⟨G8, 0, none⟩) x.chain.length c8 x.Ap x.path.length x.cp) _ (Cells.sub (hW10.at_ 1 rfl) 0 (fun j u h => by rwa [Nat.zero_add])) Try.underlying60 rfl (by kernel_rfl) ?_)
        | (refine wl_store_row hW10 2 rfl 60 (.tmp 102) (.tmp 100) rfl (off := j * 20 + 17) rfl (sgCells x.leaf (some ⟨G8, 0, none⟩) x.chain.length c8 x.Ap x.path.length x.cp) (by rw [hlr]; show j * 20 + 17 + 3 ≤ n * 20; omega) rfl rfl (by kernel_rfl) (sg_one _ _ _ _ _ _ _) ⟨own_not (fun e => absurd (show G8 = G by simpa [Value.ownBlock] using e) (by omega)), by simp [Res.apart] <;> omega, ksd_apart (fun hF => by have := (HF7.out _ hF).2; omega), by simp [Res.apart] <;> omega, by simp [Res.apart] <;> omega, by simp [Res.apart] <;> omega, by simp [Res.apart, Low.rd] <;> omega, by simp [Res.apart, Low.rd] <;> omega, by simp [Res.apart] <;> omega, trivial⟩ ?_; intro W11 hW11 hs11; simp only [List.set_cons_zero, List.set_cons_succ] at hW11))
       clear hW10 hlr q1
       have hW12 : All W11 [.own g11 41 16 (some ⟨G8, 0, none⟩) x.chain.length c8 (hvs ch1).flatten, .cells g10 60 (sgCells x.leaf (some ⟨G8, 0, none⟩) x.chain.length c8 x.Ap x.path.length x.cp), .own g7 64 20 (some ⟨G, 0, none⟩) n c5 (l5.map ksC).flatten, .ksd (g3 + 1) l, .cells g3 25 (envC sRec Ap m cp (some ⟨G, 0, none⟩) n c5), .cells (g + 1) 25 envZ, .cells g 27 (caseC Ap np cp As nq cq sp b), .low (.rd B 1 Ap m (pay.map bv)), .low (.rd B 1 As nq (q.map bv)), .kept w w.heap.size] := ⟨hW11.at_ 0 rfl, hW11.at_ 1 rfl, by have := hW11.at_ 2 rfl; rw [← HP5.out]; exact this, hW11.at_ 3 rfl, hW11.at_ 4 rfl, hW11.at_ 5 rfl, hW11.at_ 6 rfl, hW11.at_ 7 rfl, hW11.at_ 8 rfl, hW11.at_ 9 rfl, trivial⟩
       clear hW11
       go_wp2_with (first
      | (refine wl_load_any rfl 25 (.tmp 3) rfl ⟨g3, 0, none⟩ rfl (envC sRec Ap m cp (some ⟨G, 0, none⟩) n c5) _ (Cells.sub (hW12.at_ 4 rfl) 0 (fun j u h => by rwa [Nat.zero_add])) Try.underlying25 rfl (by kernel_rfl) ?_)
      | (refine wl_store_at hW12 5 rfl 25 (.tmp 2) (.tmp 154) rfl (g + 1) _ _ (envC sRec Ap m cp (some ⟨G, 0, none⟩) n c5) rfl rfl rfl rfl (by kernel_rfl) (envC_one _ _ _ _ _ _ _) ⟨own_below (by omega), by simp [Res.apart] <;> omega, own_below (by omega), ksd_apart (fun hF => by have := (HF7.out _ hF).1; omega), by simp [Res.apart] <;> omega, by simp [Res.apart] <;> omega, by simp [Res.apart, Low.rd] <;> omega, by simp [Res.apart, Low.rd] <;> omega, by simp [Res.apart] <;> omega, trivial⟩ ?_; intro W6 hW6 hs6; simp only [List.set_cons_zero, List.set_cons_succ] at hW6))
       refine bodyPost_ret (v := .agg (envC sRec Ap m cp (some ⟨G, 0, none⟩) n c5).toArray) ?_ rfl (md_end (kd := sRec) (kss_own (hW6.at_ 2 rfl) (HKF.out _ (hW6.at_ 3 rfl : Nest _ _ _ _ _ _ _ _ _ _ _).inn (hW6.at_ 0 rfl)) HLN5.out) ((hW6.at_ 7 rfl : Rd W6 B 1 Ap m (pay.map bv) ∧ B ≤ W6.heap.size).1.mono (hW6.at_ 7 rfl : _ ∧ B ≤ W6.heap.size).2) HPM.out (by omega) (Nat.le_trans hcm (by decide)) (hW6.at_ 2 rfl : Go.Adm.Own W6 g7 64 20 (some ⟨G, 0, none⟩) n c5 _).cap HM5.out (hW6.at_ 9 rfl : _ ∧ _).1)
       exact results_cell_row rfl _ _ (g + 1) 25 (envC sRec Ap m cp (some ⟨G, 0, none⟩) n c5).toArray (0, 0) _ rfl (hW6.at_ 5 rfl) Try.underlying25 rfl (by kernel_rfl)
     ·obtain ⟨s0, hs0⟩ : ∃ s0, s0 = W6.heap.size := ⟨_, rfl⟩
      have hGs : G < s0 := by rw [hs0]; exact ((hW6.at_ 0 rfl : Go.Adm.Own W6 g7 64 20 (some ⟨G, 0, none⟩) n c5 _).lt rfl).2
      have hJ : All W6 [.own g7 64 20 (some ⟨G, 0, none⟩) n c5 (l.map ksC).flatten, .ksd (g3 + 1) l, .cells g3 25 (envC sRec Ap m cp (some ⟨G, 0, none⟩) n c5), .cells (g + 1) 25 envZ, .cells g 27 (caseC Ap np cp As nq cq sp b), .low (.rd B 1 Ap m (pay.map bv)), .low (.rd B 1 As nq (q.map bv)), .kept w w.heap.size, .kept W6 s0] := ⟨hW6.at_ 0 rfl, hW6.at_ 1 rfl, hW6.at_ 2 rfl, hW6.at_ 3 rfl, hW6.at_ 4 rfl, hW6.at_ 5 rfl, hW6.at_ 6 rfl, hW6.at_ 7 rfl, ⟨Below.refl _ _, Nat.le_of_eq hs0⟩, trivial⟩
      clear hW6 hs0
      go_upto_region 20 with fail
      refine wp_region_hops 7 [105, 106, 107, 108, 109, 110, 111] _
       [.lit0 s0 5 1, .eq (.pointer (some ⟨g3, 1, none⟩)), .eq (.slice Ap m cp), .row s0 5 1 m (pay.map bv), .eq (.pointer (some ⟨g, 3, none⟩)), .eq (.int .u8 (b.toNat : Int)), .row s0 5 1 1 [.int .u8 (b.toNat : Int)]]
       (by kernel_rfl) (by kernel_rfl) hJ rfl ?hops ?fin
      case hops =>
       refine ⟨?_, ?_, ?_, ?_, ?_, ?_, ?_, trivial⟩
       ·intro a W hW hb hd K hK
        have hz0 := (hW.at_ 8 rfl : _ ∧ s0 ≤ W.heap.size).2
        go_simp
        refine hK _ _ (grown_alloc _ _) ⟨_, rfl, ?_⟩
        exact Go.Adm.Own.lit W #[] 0 hz0 (by decide) rfl
       ·intro a W hW hb hd K hK
        have b3 := hb 3 rfl
        go_simp
        exact hK _ _ (World.grownBy.refl _ _) rfl
       ·intro a W hW hb hd K hK
        have b106 : a.tmps[106]?.getD undef = _ := hd ⟨1, .data⟩ (by simp) rfl
        have q1 := (env_cells sRec Ap m cp (some ⟨G, 0, none⟩) n c5 (hW.at_ 2 rfl)).2.1
        go_simp
        exact hK _ _ (World.grownBy.refl _ _) rfl
       ·intro a W hW hb hd K hK
        obtain ⟨g8, q105, hO⟩ := (hd ⟨0, .data⟩ (by simp) rfl : VF.ok (.lit0 s0 5 1) (a.tmps[105]?.getD undef) W)
        have q107 : a.tmps[107]?.getD undef = _ := hd ⟨2, .data⟩ (by simp) rfl
        have hz0 := (hW.at_ 8 rfl : _ ∧ s0 ≤ W.heap.size).2
        refine wp_app_lit W el_u8 (.tmp 105) (.tmp 107) rfl s0 g8 (show a.eval (.tmp 105) = _ from by simp only [Act.eval, Array.getD_eq_getD_getElem?]; exact q105) hO B Ap m cp (pay.map bv) (show a.eval (.tmp 107) = _ from by simp only [Act.eval, Array.getD_eq_getD_getElem?]; exact q107) (hW.at_ 5 rfl : Rd W B 1 Ap m (pay.map bv) ∧ _).1 (bv_one _) (by omega) hz0 ?_
        intro A8 c8 w8 hO8 hg8
        exact hK _ _ hg8 ⟨A8, c8, rfl, hO8⟩
       ·intro a W hW hb hd K hK
        have b1 := hb 1 rfl
        go_simp
        exact hK _ _ (World.grownBy.refl _ _) rfl
       ·intro a W hW hb hd K hK
        have b109 : a.tmps[109]?.getD undef = _ := hd ⟨4, .data⟩ (by simp) rfl
        have q1 : W.cell? ⟨g, 3, none⟩ = some (.int .u8 (b.toNat : Int)) := (case_cells (hW.at_ 4 rfl)).2.2.2
        go_simp
        exact hK _ _ (World.grownBy.refl _ _) rfl
       ·intro a W hW hb hd K hK
        have b110 : a.tmps[110]?.getD undef = _ := hd ⟨5, .data⟩ (by simp) rfl
        have hz0 := (hW.at_ 8 rfl : _ ∧ s0 ≤ W.heap.size).2
        go_simp
        refine hK _ _ (grown_alloc _ _) ⟨_, _, rfl, ?_⟩
        exact Go.Adm.Own.lit W #[.int .u8 (b.toNat : Int)] 1 hz0 (by decide) rfl
      case fin =>
       intro vs V hV hv
       obtain ⟨A8, c8, e3, hO8⟩ := (hv 3 (by decide) : VF.ok (.row s0 5 1 m (pay.map bv)) (vs 3) V)
       obtain ⟨A9, c9, e6, hO9⟩ := (hv 6 (by decide) : VF.ok (.row s0 5 1 1 [.int .u8 (b.toNat : Int)]) (vs 6) V)
       clear hv hJ
       simp only [putAll, List.drop_succ_cons, List.drop_zero, e3, e6, Act.put, List.setIfInBounds_toArray, List.set_cons_succ, List.set_cons_zero]
       clear e3 e6
       have hz0 := (hV.at_ 8 rfl : _ ∧ s0 ≤ V.heap.size).2
       have hV1 : All V (.own s0 5 1 A8 m c8 (pay.map bv) :: [.own g7 64 20 (some ⟨G, 0, none⟩) n c5 (l.map ksC).flatten, .ksd (g3 + 1) l, .cells g3 25 (envC sRec Ap m cp (some ⟨G, 0, none⟩) n c5), .cells (g + 1) 25 envZ, .cells g 27 (caseC Ap np cp As nq cq sp b), .low (.rd B 1 Ap m (pay.map bv)), .low (.rd B 1 As nq (q.map bv)), .kept w w.heap.size]) := ⟨hO8, hV.at_ 0 rfl, hV.at_ 1 rfl, hV.at_ 2 rfl, hV.at_ 3 rfl, hV.at_ 4 rfl, hV.at_ 5 rfl, hV.at_ 6 rfl, hV.at_ 7 rfl, trivial⟩
       have hr9 := hO9.rd
       have HS0 := Lib.hid hz0
       clear hO8 hO9 hV hz0
       refine wl_app_at el_u8 hV1 0 rfl (.tmp 108) (.tmp 111) rfl s0 A8 m c8 _ rfl rfl V.heap.size A9 1 c9 [.int .u8 (b.toNat : Int)] rfl hr9 (by intro u hu; simp only [List.mem_singleton] at hu; subst hu; rfl) (by omega) HS0.out (fun qq hq _ => ⟨own_not (fun e => absurd (show G = qq by simpa [Value.ownBlock] using e) (by omega)), ksd_apart (fun hF => by have := (HF7.out qq hF).2; omega), by simp [Res.apart] <;> omega, by simp [Res.apart] <;> omega, by simp [Res.apart] <;> omega, by simp [Res.apart, Low.rd] <;> omega, by simp [Res.apart, Low.rd] <;> omega, by simp [Res.apart] <;> omega, trivial⟩) ?_
       intro A7 c7 V2 hV2 hs2
       simp only [List.set_cons_zero] at hV2
       have zf := Cells.frozen (hV2.at_ 3 rfl) 1
       have qf := (env_cells sRec Ap m cp (some ⟨G, 0, none⟩) n c5 (hV2.at_ 3 rfl)).2.1
       clear hV1 hr9 hs2 HS0
       go_upto_region 27 with fail
       refine wp_gen (hV2.store 3 rfl 1 (.slice A7 (m + 1) c7) ⟨own_below (by omega), own_below (by omega), ksd_apart (fun hF => by have := (HF7.out _ hF).1; omega), by simp [Res.apart] <;> omega, by simp [Res.apart] <;> omega, by simp [Res.apart, Low.rd] <;> omega, by simp [Res.apart, Low.rd] <;> omega, by simp [Res.apart] <;> omega, trivial⟩) ?_
       rw [env_set1]
       intro W7 hW7
       simp only [List.set_cons_zero, List.set_cons_succ] at hW7
       clear hV2 zf qf
       go_wp2_with (first
      | (refine wl_load_any rfl 25 (.tmp 3) rfl ⟨g3, 0, none⟩ rfl (envC sRec A7 (m + 1) c7 (some ⟨G, 0, none⟩) n c5) _ (Cells.sub (hW7.at_ 3 rfl) 0 (fun j u h => by rwa [Nat.zero_add])) Try.underlying25 rfl (by kernel_rfl) ?_)
      | (refine wl_store_at hW7 4 rfl 25 (.tmp 2) (.tmp 154) rfl (g + 1) _ _ (envC sRec A7 (m + 1) c7 (some ⟨G, 0, none⟩) n c5) rfl rfl rfl rfl (by kernel_rfl) (envC_one _ _ _ _ _ _ _) ⟨own_below (by omega), own_below (by omega), ksd_apart (fun hF => by have := (HF7.out _ hF).1; omega), by simp [Res.apart] <;> omega, by simp [Res.apart] <;> omega, by simp [Res.apart, Low.rd] <;> omega, by simp [Res.apart, Low.rd] <;> omega, by simp [Res.apart] <;> omega, trivial⟩ ?_; intro W6 hW6 hs6; simp only [List.set_cons_zero, List.set_cons_succ] at hW6))
       refine bodyPost_ret (v := .agg (envC sRec A7 (m + 1) c7 (some ⟨G, 0, none⟩) n c5).toArray) ?_ rfl (md_end (kd := sRec) (pay := pay ++ [b]) (kss_own (hW6.at_ 1 rfl) (hW6.at_ 2 rfl : Nest _ _ _ _ _ _ _ _ _ _ _).inn HLN.out) (by rw [List.map_append]; exact (hW6.at_ 0 rfl : Go.Adm.Own W6 s0 5 1 A7 (m + 1) c7 _).rd) (by rw [List.length_append, HPM.out]; rfl) (hW6.at_ 0 rfl : Go.Adm.Own W6 s0 5 1 A7 (m + 1) c7 _).cap.1 (hW6.at_ 0 rfl : Go.Adm.Own W6 s0 5 1 A7 (m + 1) c7 _).cap.2 (hW6.at_ 1 rfl : Go.Adm.Own W6 g7 64 20 (some ⟨G, 0, none⟩) n c5 _).cap (MadeR.any (by show sRec.size ≤ 6; decide) (by show (pay ++ [b]).length ≤ 201; rw [List.length_append, HEA.out.1]; show m + 1 ≤ 201; omega) HEA.out.2.1 HEA.out.2.2 (by rw [HSE.out]; decide) (by rw [HSE.out]; decide)) (hW6.at_ 8 rfl : _ ∧ _).1)
       exact results_cell_row rfl _ _ (g + 1) 25 (envC sRec A7 (m + 1) c7 (some ⟨G, 0, none⟩) n c5).toArray (0, 0) _ rfl (hW6.at_ 4 rfl) Try.underlying25 rfl (by kernel_rfl)
     ·have z6 := Cells.frozen (hW6.at_ 2 rfl) 0
      have q6 := (env_cells sRec Ap m cp (some ⟨G, 0, none⟩) n c5 (hW6.at_ 2 rfl)).1
      go_upto_region 27 with fail
      refine wp_gen (hW6.store 2 rfl 0 (.string sLay) ⟨own_below (by omega), ksd_apart (fun hF => by have := (HF7.out _ hF).1; omega), by simp [Res.apart] <;> omega, by simp [Res.apart] <;> omega, by simp [Res.apart, Low.rd] <;> omega, by simp [Res.apart, Low.rd] <;> omega, by simp [Res.apart] <;> omega, trivial⟩) ?_
      rw [env_set0]
      intro W7 hW7
      simp only [List.set_cons_zero, List.set_cons_succ] at hW7
      clear hW6 z6 q6
      go_wp2_with (first
      | (refine wl_load_any rfl 25 (.tmp 3) rfl ⟨g3, 0, none⟩ rfl (envC sLay Ap m cp (some ⟨G, 0, none⟩) n c5) _ (Cells.sub (hW7.at_ 2 rfl) 0 (fun j u h => by rwa [Nat.zero_add])) Try.underlying25 rfl (by kernel_rfl) ?_)
      | (refine wl_store_at hW7 3 rfl 25 (.tmp 2) (.tmp 154) rfl (g + 1) _ _ (envC sLay Ap m cp (some ⟨G, 0, none⟩) n c5) rfl rfl rfl rfl (by kernel_rfl) (envC_one _ _ _ _ _ _ _) ⟨own_below (by omega), ksd_apart (fun hF => by have := (HF7.out _ hF).1; omega), by simp [Res.apart] <;> omega, by simp [Res.apart] <;> omega, by simp [Res.apart, Low.rd] <;> omega, by simp [Res.apart, Low.rd] <;> omega, by simp [Res.apart] <;> omega, trivial⟩ ?_; intro W6 hW6 hs6; simp only [List.set_cons_zero, List.set_cons_succ] at hW6))
      refine bodyPost_ret (v := .agg (envC sLay Ap m cp (some ⟨G, 0, none⟩) n c5).toArray) ?_ rfl (md_end (kd := sLay) (kss_own (hW6.at_ 0 rfl) (hW6.at_ 1 rfl : Nest _ _ _ _ _ _ _ _ _ _ _).inn HLN.out) ((hW6.at_ 5 rfl : Rd W6 B 1 Ap m (pay.map bv) ∧ B ≤ W6.heap.size).1.mono (hW6.at_ 5 rfl : _ ∧ B ≤ W6.heap.size).2) HPM.out (by omega) (Nat.le_trans hcm (by decide)) (hW6.at_ 0 rfl : Go.Adm.Own W6 g7 64 20 (some ⟨G, 0, none⟩) n c5 _).cap (MadeR.any (by show sLay.size ≤ 6; decide) (by show pay.length ≤ 201; rw [HEA.out.1]; omega) HEA.out.2.1 HEA.out.2.2 (by rw [HSE.out]; decide) (by rw [HSE.out]; decide)) (hW6.at_ 7 rfl : _ ∧ _).1)
      exact results_cell_row rfl _ _ (g + 1) 25 (envC sLay Ap m cp (some ⟨G, 0, none⟩) n c5).toArray (0, 0) _ rfl (hW6.at_ 3 rfl) Try.underlying25 rfl (by kernel_rfl)
     ·have h0l : 0 < l.length := by have := HLN.out; omega
      have h1l : n - 1 < l.length := by have := HLN.out; omega
      have hki := (hW6.at_ 1 rfl : Nest _ _ _ _ _ _ _ _ _ _ _).inn
      have HY4 : Hid (l[n - 1]? = some l[n - 1]) := Lib.hid (List.getElem?_eq_getElem h1l)
      have HX4 : Hid (l[0]? = some l[0]) := Lib.hid (List.getElem?_eq_getElem h0l)
      have YR : Hid (l[n - 1].r.length = 16) := Lib.hid (hki _ (List.getElem_mem h1l)).r16
      have XR : Hid (l[0].r.length = 16) := Lib.hid (hki _ (List.getElem_mem h0l)).r16
      have hlen : ∀ e ∈ l.map ksC, e.length = 20 := fun e he => by
       obtain ⟨z, hz, rfl⟩ := List.mem_map.1 he
       exact ksC_len (hki z hz).r16
      have HC4 : Hid (∀ W : World, Go.Adm.Own W g7 64 20 (some ⟨G, 0, none⟩) n c5 (l.map ksC).flatten → ∀ (i : Nat) (z : Ks), l[i]? = some z → ∀ q s, (ksC z)[q]? = some s → W.cell? ⟨G, i * 20 + q, none⟩ = some s) := Lib.hid (fun W hW i z hz q s hs => by
       obtain ⟨hlt, hz'⟩ := List.getElem?_eq_some_iff.1 hz
       have hq : q < 20 := by
        have := (List.getElem?_eq_some_iff.1 hs).1
        rw [ksC_len (hki z (List.mem_of_getElem? hz)).r16] at this
        exact this
       have hl := HLN.out
       rw [World.ownsRow.cellAt hW (i * 20 + q) (by omega), flat_get hq (l.map ksC) i (by simpa using hlt) hlen, List.getElem_map, hz']
       exact hs)
      have HZ4 : Hid (∀ z, z ∈ l ∨ z = l[n - 1] ∨ z = l[0] → z.r.length = 16) := Lib.hid (fun z hz => by
       rcases hz with h | rfl | rfl
       ·exact (hki z h).r16
       ·exact (hki _ (List.getElem_mem h1l)).r16
       ·exact (hki _ (List.getElem_mem h0l)).r16)
      have HM4 : Hid (∀ z ∈ (l.set 0 l[n - 1]).set (n - 1) l[0], z ∈ l) := Lib.hid (fun z hz => by
       rcases List.mem_or_eq_of_mem_set hz with h | rfl
       ·rcases List.mem_or_eq_of_mem_set h with h | rfl
        ·exact h
        ·exact List.getElem_mem h1l
       ·exact List.getElem_mem h0l)
      generalize l[n - 1] = y at *
      generalize l[0] = x0 at *
      clear hki hlen h0l h1l
      have wj : IntKind.i64.wrap ((n : Int) - 1) = ((n - 1 : Nat) : Int) := by rw [IntKind.wrap_i64]; omega
      have w00 : (0 : Int) < (n : Int) := by omega
      have w01 : 0 < n := by omega
      have wl0 : (0 : Int) ≤ ((n - 1 : Nat) : Int) := by omega
      have wl1 : ((n - 1 : Nat) : Int) < (n : Int) := by omega
      have wl2 : (((n - 1 : Nat) : Int)).toNat = n - 1 := by omega
      go_upto_region 24 with fail
      refine wp_region_order [119, 120, 121, 122, 123, 124, 125, 126, 127, 128, 129, 130, 131, 132, 133, 134, 135, 1017, 136, 1019]
       (fun L W => All W [.own g7 64 20 (some ⟨G, 0, none⟩) n c5 ((if L 19 then (l.set 0 y).set (n - 1) x0 else if L 17 then l.set 0 y else l).map ksC).flatten, .ksd (g3 + 1) l, .cells g3 25 (envC sRec Ap m cp (some ⟨G, 0, none⟩) n c5), .cells (g + 1) 25 envZ, .cells g 27 (caseC Ap np cp As nq cq sp b), .low (.rd B 1 Ap m (pay.map bv)), .low (.rd B 1 As nq (q.map bv)), .kept w w.heap.size])
       (fun k => [.pointer (some ⟨g3, 2, none⟩), .slice (some ⟨G, 0, none⟩) n c5, .pointer (some ⟨g3, 2, none⟩), .slice (some ⟨G, 0, none⟩) n c5, .int .i64 (n : Int), .int .i64 ((n - 1 : Nat) : Int), .pointer (some ⟨g3, 2, none⟩), .slice (some ⟨G, 0, none⟩) n c5, .int .i64 (n : Int), .int .i64 ((n - 1 : Nat) : Int), .pointer (some ⟨G, (n - 1) * 20, none⟩), .agg (ksC y).toArray, .pointer (some ⟨g3, 2, none⟩), .slice (some ⟨G, 0, none⟩) n c5, .pointer (some ⟨G, 0, none⟩), .agg (ksC x0).toArray, .pointer (some ⟨G, 0, none⟩), undef, .pointer (some ⟨G, (n - 1) * 20, none⟩), undef].getD k undef)
       (by kernel_rfl) (by kernel_rfl) (by simp) ?hev hW6.drew rfl ?hops ?fin
      case hev =>
       intro k t hk ht
       have h0 : [119, 120, 121, 122, 123, 124, 125, 126, 127, 128, 129, 130, 131, 132, 133, 134, 135, 1017, 136, 1019].getD k 0 = t := by rw [List.getD, hk]; rfl
       have h1 : ∀ k, k < 17 → [119, 120, 121, 122, 123, 124, 125, 126, 127, 128, 129, 130, 131, 132, 133, 134, 135, 1017, 136, 1019].getD k 0 < 1000 := by decide
       have h2 : k < 20 := (List.getElem?_eq_some_iff.1 hk).1
       rcases (by omega : k < 17 ∨ k = 17 ∨ k = 18 ∨ k = 19) with h | rfl | rfl | rfl
       ·have := h1 k h; omega
       ·rfl
       ·have h3 : 136 = t := h0
        omega
       ·rfl
      case hops =>
       refine ⟨?_, ?_, ?_, ?_, ?_, ?_, ?_, ?_, ?_, ?_, ?_, ?_, ?_, ?_, ?_, ?_, ?_, ?_, ?_, ?_, trivial⟩
       ·refine ⟨rfl, ?_⟩
        intro a W L hJ hk hcl hold hb K hK
        have b3 := hold 3 rfl
        go_simp
        exact hK _ hJ
       ·refine ⟨rfl, ?_⟩
        intro a W L hJ hk hcl hold hb K hK
        have b119 : a.tmps[119]?.getD undef = _ := (hb ⟨0, .data⟩ (by simp) rfl).2
        have q1 := (env_cells sRec Ap m cp (some ⟨G, 0, none⟩) n c5 (hJ.at_ 2 rfl)).2.2
        go_simp
        exact hK _ hJ
       ·refine ⟨rfl, ?_⟩
        intro a W L hJ hk hcl hold hb K hK
        have b3 := hold 3 rfl
        go_simp
        exact hK _ hJ
       ·refine ⟨rfl, ?_⟩
        intro a W L hJ hk hcl hold hb K hK
        have b121 : a.tmps[121]?.getD undef = _ := (hb ⟨2, .data⟩ (by simp) rfl).2
        have q1 := (env_cells sRec Ap m cp (some ⟨G, 0, none⟩) n c5 (hJ.at_ 2 rfl)).2.2
        go_simp
        exact hK _ hJ
       ·refine ⟨rfl, ?_⟩
        intro a W L hJ hk hcl hold hb K hK
        have b8 := hold 8 rfl
        go_simp
        exact hK _ hJ
       ·refine ⟨rfl, ?_⟩
        intro a W L hJ hk hcl hold hb K hK
        have b123 : a.tmps[123]?.getD undef = _ := (hb ⟨4, .data⟩ (by simp) rfl).2
        go_simp
        exact hK _ hJ
       ·refine ⟨rfl, ?_⟩
        intro a W L hJ hk hcl hold hb K hK
        have b3 := hold 3 rfl
        go_simp
        exact hK _ hJ
       ·refine ⟨rfl, ?_⟩
        intro a W L hJ hk hcl hold hb K hK
        have b125 : a.tmps[125]?.getD undef = _ := (hb ⟨6, .data⟩ (by simp) rfl).2
        have q1 := (env_cells sRec Ap m cp (some ⟨G, 0, none⟩) n c5 (hJ.at_ 2 rfl)).2.2
        go_simp
        exact hK _ hJ
       ·refine ⟨rfl, ?_⟩
        intro a W L hJ hk hcl hold hb K hK
        have b8 := hold 8 rfl
        go_simp
        exact hK _ hJ
       ·refine ⟨rfl, ?_⟩
        intro a W L hJ hk hcl hold hb K hK
        have b127 : a.tmps[127]?.getD undef = _ := (hb ⟨8, .data⟩ (by simp) rfl).2
        go_simp
        exact hK _ hJ
       ·refine ⟨rfl, ?_⟩
        intro a W L hJ hk hcl hold hb K hK
        have b126 : a.tmps[126]?.getD undef = _ := (hb ⟨7, .data⟩ (by simp) rfl).2
        have b128 : a.tmps[128]?.getD undef = _ := (hb ⟨9, .data⟩ (by simp) rfl).2
        go_simp
        exact hK _ hJ
       ·refine ⟨rfl, ?_⟩
        intro a W L hJ hk hcl hold hb K hK
        have b129 : a.tmps[129]?.getD undef = _ := (hb ⟨10, .data⟩ (by simp) rfl).2
        have h17 : L 17 = false := by
         cases h : L 17 with
         | false => rfl
         | true =>
          have h2 := hcl 17 _ rfl h ⟨11, .data⟩ (by simp) rfl
          rw [hk] at h2
          cases h2
        have h19 : L 19 = false := by
         cases h : L 19 with
         | false => rfl
         | true =>
          have h2 := (hcl 19 _ rfl h ⟨17, .chain⟩ (by simp) rfl)
          rw [h17] at h2
          cases h2
        have hJ' := hJ
        simp only [h17, h19, Bool.false_eq_true, if_false] at hJ
        refine wp_load_any 64 (.tmp 129) rfl ⟨G, (n - 1) * 20, none⟩ (by simp [Act.eval, b129]) (ksC y) _ (fun q u hu => by rw [add_litG]; exact HC4.out W (hJ.at_ 0 rfl) _ y HY4.out q u hu) Try.underlying64 rfl (by rw [ksC_len YR.out]; kernel_rfl) ?_
        exact hK _ hJ'
       ·refine ⟨rfl, ?_⟩
        intro a W L hJ hk hcl hold hb K hK
        have b3 := hold 3 rfl
        go_simp
        exact hK _ hJ
       ·refine ⟨rfl, ?_⟩
        intro a W L hJ hk hcl hold hb K hK
        have b131 : a.tmps[131]?.getD undef = _ := (hb ⟨12, .data⟩ (by simp) rfl).2
        have q1 := (env_cells sRec Ap m cp (some ⟨G, 0, none⟩) n c5 (hJ.at_ 2 rfl)).2.2
        go_simp
        exact hK _ hJ
       ·refine ⟨rfl, ?_⟩
        intro a W L hJ hk hcl hold hb K hK
        have b132 : a.tmps[132]?.getD undef = _ := (hb ⟨13, .data⟩ (by simp) rfl).2
        go_simp
        exact hK _ hJ
       ·refine ⟨rfl, ?_⟩
        intro a W L hJ hk hcl hold hb K hK
        have b133 : a.tmps[133]?.getD undef = _ := (hb ⟨14, .data⟩ (by simp) rfl).2
        have h17 : L 17 = false := by
         cases h : L 17 with
         | false => rfl
         | true =>
          have h2 := hcl 16 _ rfl (hcl 17 _ rfl h ⟨16, .data⟩ (by simp) rfl) ⟨15, .phase⟩ (by simp) rfl
          rw [hk] at h2
          cases h2
        have h19 : L 19 = false := by
         cases h : L 19 with
         | false => rfl
         | true =>
          have h2 := (hcl 19 _ rfl h ⟨17, .chain⟩ (by simp) rfl)
          rw [h17] at h2
          cases h2
        have hJ' := hJ
        simp only [h17, h19, Bool.false_eq_true, if_false] at hJ
        refine wp_load_any 64 (.tmp 133) rfl ⟨G, 0 * 20, none⟩ (by simp [Act.eval, b133]) (ksC x0) _ (fun q u hu => by rw [add_litG]; exact HC4.out W (hJ.at_ 0 rfl) _ x0 HX4.out q u hu) Try.underlying64 rfl (by rw [ksC_len XR.out]; kernel_rfl) ?_
        exact hK _ hJ'
       ·refine ⟨rfl, ?_⟩
        intro a W L hJ hk hcl hold hb K hK
        have b120 : a.tmps[120]?.getD undef = _ := (hb ⟨1, .data⟩ (by simp) rfl).2
        go_simp
        exact hK _ hJ
       ·refine ⟨rfl, ?_⟩
        intro a W L hJ hk hcl hold hb K hK
        have b135 : a.tmps[135]?.getD undef = _ := (hb ⟨16, .data⟩ (by simp) rfl).2
        have b130 : a.tmps[130]?.getD undef = _ := (hb ⟨11, .data⟩ (by simp) rfl).2
        have h19 : L 19 = false := by
         cases h : L 19 with
         | false => rfl
         | true =>
          have h2 := (hcl 19 _ rfl h ⟨17, .chain⟩ (by simp) rfl)
          rw [hk] at h2
          cases h2
        simp only [h19, hk, Bool.false_eq_true, if_false] at hJ
        refine wp_store_el (.tmp 135) (.tmp 130) rfl (hJ.at_ 0 rfl) (j := 0) (by omega) HLN.out (fun z hz => ksC_len (HZ4.out _ (.inl hz))) y (ksC_len YR.out) (by simp [Act.eval, b135]) (by simp [Act.eval, b130]) (by kernel_rfl) (ksC_one y) ?_
        intro w' hown' hg' hs'
        have hA := All.upd hg' 0 (.own g7 64 20 (some ⟨G, 0, none⟩) n c5 ((l.set 0 y).map ksC).flatten) hJ hown' ⟨ksd_apart (fun hF => by have := (HF7.out _ hF).2; omega), by simp [Res.apart] <;> omega, by simp [Res.apart] <;> omega, by simp [Res.apart] <;> omega, by simp [Res.apart, Low.rd] <;> omega, by simp [Res.apart, Low.rd] <;> omega, by simp [Res.apart] <;> omega, trivial⟩
        refine hK _ ?_
        have m1 : Go.Adm.mark L 17 19 = false := h19
        have m2 : Go.Adm.mark L 17 17 = true := rfl
        simp only [m1, m2, Bool.false_eq_true, if_false, if_true]
        exact hA
       ·refine ⟨rfl, ?_⟩
        intro a W L hJ hk hcl hold hb K hK
        have b122 : a.tmps[122]?.getD undef = _ := (hb ⟨3, .data⟩ (by simp) rfl).2
        have b124 : a.tmps[124]?.getD undef = _ := (hb ⟨5, .data⟩ (by simp) rfl).2
        go_simp
        exact hK _ hJ
       ·refine ⟨rfl, ?_⟩
        intro a W L hJ hk hcl hold hb K hK
        have b136 : a.tmps[136]?.getD undef = _ := (hb ⟨18, .data⟩ (by simp) rfl).2
        have b134 : a.tmps[134]?.getD undef = _ := (hb ⟨15, .data⟩ (by simp) rfl).2
        have h17 : L 17 = true := (hb ⟨17, .chain⟩ (by simp) rfl).1
        simp only [h17, hk, Bool.false_eq_true, if_false, if_true] at hJ
        refine wp_store_el (.tmp 136) (.tmp 134) rfl (hJ.at_ 0 rfl) (j := n - 1) (by omega) (by rw [List.length_set]; exact HLN.out) (fun z hz => ksC_len (HZ4.out _ ((List.mem_or_eq_of_mem_set hz).imp id .inl))) x0 (ksC_len XR.out) (by simp [Act.eval, b136]) (by simp [Act.eval, b134]) (by kernel_rfl) (ksC_one x0) ?_
        intro w' hown' hg' hs'
        have hA := All.upd hg' 0 (.own g7 64 20 (some ⟨G, 0, none⟩) n c5 (((l.set 0 y).set (n - 1) x0).map ksC).flatten) hJ hown' ⟨ksd_apart (fun hF => by have := (HF7.out _ hF).2; omega), by simp [Res.apart] <;> omega, by simp [Res.apart] <;> omega, by simp [Res.apart] <;> omega, by simp [Res.apart, Low.rd] <;> omega, by simp [Res.apart, Low.rd] <;> omega, by simp [Res.apart] <;> omega, trivial⟩
        refine hK _ ?_
        have m1 : Go.Adm.mark L 19 19 = true := rfl
        simp only [m1, if_true]
        exact hA
      case fin =>
       intro W L hJ hall
       have h19 := hall 19 (by decide)
       simp only [h19, if_true] at hJ
       have HKI : Hid (∀ W, KsI l W → KsI ((l.set 0 y).set (n - 1) x0) W) := Lib.hid (fun W h z hz => h z (HM4.out z hz))
       have HLN5 : Hid (((l.set 0 y).set (n - 1) x0).length = n) := Lib.hid (by rw [List.length_set, List.length_set]; exact HLN.out)
       have HSE5 : Hid ((((l.set 0 y).set (n - 1) x0).map Ks.s).length ≤ 3 ∧ ∀ s ∈ ((l.set 0 y).set (n - 1) x0).map Ks.s, s.chain.length = 68 ∧ s.path.length ≤ 6) := Lib.hid (by
        refine ⟨by rw [List.length_map, List.length_set, List.length_set, ← List.length_map (f := Ks.s)]; exact HEA.out.2.1, fun s hs => ?_⟩
        obtain ⟨z, hz, rfl⟩ := List.mem_map.1 hs
        exact HEA.out.2.2 _ (List.mem_map_of_mem (HM4.out z hz)))
       generalize (l.set 0 y).set (n - 1) x0 = l5 at *
       clear hall hW6 HC4 HZ4 HM4
       simp only [putAll, Act.put, List.setIfInBounds_toArray, List.set_cons_succ, List.set_cons_zero]
       go_wp2_with (first
      | (refine wl_load_any rfl 25 (.tmp 3) rfl ⟨g3, 0, none⟩ rfl (envC sRec Ap m cp (some ⟨G, 0, none⟩) n c5) _ (Cells.sub (hJ.at_ 2 rfl) 0 (fun j u h => by rwa [Nat.zero_add])) Try.underlying25 rfl (by kernel_rfl) ?_)
      | (refine wl_store_at hJ 3 rfl 25 (.tmp 2) (.tmp 154) rfl (g + 1) _ _ (envC sRec Ap m cp (some ⟨G, 0, none⟩) n c5) rfl rfl rfl rfl (by kernel_rfl) (envC_one _ _ _ _ _ _ _) ⟨own_below (by omega), ksd_apart (fun hF => by have := (HF7.out _ hF).1; omega), by simp [Res.apart] <;> omega, by simp [Res.apart] <;> omega, by simp [Res.apart, Low.rd] <;> omega, by simp [Res.apart, Low.rd] <;> omega, by simp [Res.apart] <;> omega, trivial⟩ ?_; intro W6 hW6 hs6; simp only [List.set_cons_zero, List.set_cons_succ] at hW6))
       refine bodyPost_ret (v := .agg (envC sRec Ap m cp (some ⟨G, 0, none⟩) n c5).toArray) ?_ rfl (md_end (kd := sRec) (kss_own (hW6.at_ 0 rfl) (HKI.out _ (hW6.at_ 1 rfl : Nest _ _ _ _ _ _ _ _ _ _ _).inn) HLN5.out) ((hW6.at_ 5 rfl : Rd W6 B 1 Ap m (pay.map bv) ∧ B ≤ W6.heap.size).1.mono (hW6.at_ 5 rfl : _ ∧ B ≤ W6.heap.size).2) HPM.out (by omega) (Nat.le_trans hcm (by decide)) (hW6.at_ 0 rfl : Go.Adm.Own W6 g7 64 20 (some ⟨G, 0, none⟩) n c5 _).cap (MadeR.any (by show sRec.size ≤ 6; decide) (by show pay.length ≤ 201; rw [HEA.out.1]; omega) HSE5.out.1 HSE5.out.2 (by rw [HSE.out]; decide) (by rw [HSE.out]; decide)) (hW6.at_ 7 rfl : _ ∧ _).1)
       exact results_cell_row rfl _ _ (g + 1) 25 (envC sRec Ap m cp (some ⟨G, 0, none⟩) n c5).toArray (0, 0) _ rfl (hW6.at_ 3 rfl) Try.underlying25 rfl (by kernel_rfl)
     ·have hjl : j < l.length := by rw [HLN.out]; exact hjn
      have wj0 : (0 : Int) ≤ (j : Int) := by omega
      have wj1 : (j : Int) < (n : Int) := by omega
      have wj2 : ((j : Int)).toNat = j := by omega
      have hx := (hW6.at_ 1 rfl : Nest _ _ _ _ _ _ _ _ _ _ _).inn l[j] (List.getElem_mem hjl)
      obtain ⟨r3, hr3⟩ : ∃ r3, l[j].r[3]? = some r3 := ⟨l[j].r[3]'(by rw [hx.r16]; decide), List.getElem?_eq_getElem _⟩
      have hlen : ∀ e ∈ l.map ksC, e.length = 20 := fun e he => by
       obtain ⟨y, hy, rfl⟩ := List.mem_map.1 he
       exact ksC_len ((hW6.at_ 1 rfl : Nest _ _ _ _ _ _ _ _ _ _ _).inn y hy).r16
      have HQ5 : Hid (∀ W, All W [.own g7 64 20 (some ⟨G, 0, none⟩) n c5 (l.map ksC).flatten, .ksd (g3 + 1) l, .cells g3 25 (envC sRec Ap m cp (some ⟨G, 0, none⟩) n c5), .cells (g + 1) 25 envZ, .cells g 27 (caseC Ap np cp As nq cq sp b), .low (.rd B 1 Ap m (pay.map bv)), .low (.rd B 1 As nq (q.map bv)), .kept w w.heap.size] → W.cell? ⟨G, j * 20 + 4, none⟩ = some (.int .u8 (r3.toNat : Int))) := Lib.hid (fun W hW => by
       rw [World.ownsRow.cellAt (hW.at_ 0 rfl : Go.Adm.Own W g7 64 20 (some ⟨G, 0, none⟩) n c5 _) (j * 20 + 4) (by omega)]
       exact row_root l j hjl hlen r3 hr3)
      go_upto_region 26 with fail
      refine wp_region_hops 15 [139, 140, 141, 142, 143, 144, 145, 146, 147, 148, 149, 150, 151, 152, 153] _
       [.eq (.pointer (some ⟨g3, 2, none⟩)), .eq (.slice (some ⟨G, 0, none⟩) n c5), .eq (.int .i64 j), .eq (.pointer (some ⟨G, j * 20, none⟩)), .eq (.pointer (some ⟨G, j * 20, none⟩)), .eq (.pointer (some ⟨G, j * 20 + 1, none⟩)), .eq (.pointer (some ⟨G, j * 20 + 4, none⟩)), .eq (.int .u8 (r3.toNat : Int)), .eq (.pointer (some ⟨g, 3, none⟩)), .eq (.int .u8 (b.toNat : Int)), .eq (.int .u8 (bits .xor .u8 (r3.toNat : Int) (b.toNat : Int))), .eq (.pointer (some ⟨G, j * 20, none⟩)), .eq (.pointer (some ⟨G, j * 20, none⟩)), .eq (.pointer (some ⟨G, j * 20 + 1, none⟩)), .eq (.pointer (some ⟨G, j * 20 + 4, none⟩))]
       (by kernel_rfl) (by kernel_rfl) hW6 rfl ?hops ?fin
      case hops =>
       refine ⟨?_, ?_, ?_, ?_, ?_, ?_, ?_, ?_, ?_, ?_, ?_, ?_, ?_, ?_, ?_, trivial⟩
       ·intro a W hW hb hd K hK
        have b3 := hb 3 rfl
        go_simp
        exact hK _ _ (World.grownBy.refl _ _) rfl
       ·intro a W hW hb hd K hK
        have b139 : a.tmps[139]?.getD undef = _ := hd ⟨0, .data⟩ (by simp) rfl
        have q1 := (env_cells sRec Ap m cp (some ⟨G, 0, none⟩) n c5 (hW.at_ 2 rfl)).2.2
        go_simp
        exact hK _ _ (World.grownBy.refl _ _) rfl
       ·intro a W hW hb hd K hK
        have b9 := hb 9 rfl
        go_simp
        exact hK _ _ (World.grownBy.refl _ _) rfl
       ·intro a W hW hb hd K hK
        have b140 : a.tmps[140]?.getD undef = _ := hd ⟨1, .data⟩ (by simp) rfl
        have b141 : a.tmps[141]?.getD undef = _ := hd ⟨2, .data⟩ (by simp) rfl
        go_simp
        exact hK _ _ (World.grownBy.refl _ _) rfl
       ·intro a W hW hb hd K hK
        have b142 : a.tmps[142]?.getD undef = _ := hd ⟨3, .data⟩ (by simp) rfl
        go_simp
        exact hK _ _ (World.grownBy.refl _ _) rfl
       ·intro a W hW hb hd K hK
        have b143 : a.tmps[143]?.getD undef = _ := hd ⟨4, .data⟩ (by simp) rfl
        go_simp
        exact hK _ _ (World.grownBy.refl _ _) rfl
       ·intro a W hW hb hd K hK
        have b144 : a.tmps[144]?.getD undef = _ := hd ⟨5, .data⟩ (by simp) rfl
        go_simp
        exact hK _ _ (World.grownBy.refl _ _) rfl
       ·intro a W hW hb hd K hK
        have b145 : a.tmps[145]?.getD undef = _ := hd ⟨6, .data⟩ (by simp) rfl
        have q1 := HQ5.out W hW
        go_simp
        exact hK _ _ (World.grownBy.refl _ _) rfl
       ·intro a W hW hb hd K hK
        have b1 := hb 1 rfl
        go_simp
        exact hK _ _ (World.grownBy.refl _ _) rfl
       ·intro a W hW hb hd K hK
        have b147 : a.tmps[147]?.getD undef = _ := hd ⟨8, .data⟩ (by simp) rfl
        have q1 : W.cell? ⟨g, 3, none⟩ = some (.int .u8 (b.toNat : Int)) := (case_cells (hW.at_ 4 rfl)).2.2.2
        go_simp
        exact hK _ _ (World.grownBy.refl _ _) rfl
       ·intro a W hW hb hd K hK
        have b146 : a.tmps[146]?.getD undef = _ := hd ⟨7, .data⟩ (by simp) rfl
        have b148 : a.tmps[148]?.getD undef = _ := hd ⟨9, .data⟩ (by simp) rfl
        go_simp
        exact hK _ _ (World.grownBy.refl _ _) rfl
       ·intro a W hW hb hd K hK
        have b140 : a.tmps[140]?.getD undef = _ := hd ⟨1, .data⟩ (by simp) rfl
        have b141 : a.tmps[141]?.getD undef = _ := hd ⟨2, .data⟩ (by simp) rfl
        go_simp
        exact hK _ _ (World.grownBy.refl _ _) rfl
       ·intro a W hW hb hd K hK
        have b150 : a.tmps[150]?.getD undef = _ := hd ⟨11, .data⟩ (by simp) rfl
        go_simp
        exact hK _ _ (World.grownBy.refl _ _) rfl
       ·intro a W hW hb hd K hK
        have b151 : a.tmps[151]?.getD undef = _ := hd ⟨12, .data⟩ (by simp) rfl
        go_simp
        exact hK _ _ (World.grownBy.refl _ _) rfl
       ·intro a W hW hb hd K hK
        have b152 : a.tmps[152]?.getD undef = _ := hd ⟨13, .data⟩ (by simp) rfl
        go_simp
        exact hK _ _ (World.grownBy.refl _ _) rfl
      case fin =>
       intro vs V hV hv
       have e10 : vs 10 = _ := hv 10 (by decide)
       have e14 : vs 14 = _ := hv 14 (by decide)
       clear hv hW6
       simp only [putAll, List.drop_succ_cons, List.drop_zero, e10, e14, Act.put, List.setIfInBounds_toArray, List.set_cons_succ, List.set_cons_zero]
       clear e10 e14
       rw [u8x]
       have zf := World.ownsRow.frozenAt (hV.at_ 0 rfl : Go.Adm.Own V g7 64 20 (some ⟨G, 0, none⟩) n c5 _) (j * 20 + 4)
       have qf := HQ5.out V hV
       have HPUT := Lib.hid (row_root_put l j hjl hlen (r3 ^^^ b) (by rw [hx.r16]; decide))
       have HKI : Hid (∀ W, KsI l W → KsI (l.set j { l[j] with r := l[j].r.set 3 (r3 ^^^ b) }) W) := Lib.hid (fun W h => h.root hjl)
       have HSE5 := Lib.hid (root_each (z := r3 ^^^ b) hjl HEA.out.2)
       clear hx hr3 hlen HQ5
       go_upto_region 27 with fail
       refine wp_gen (All.put hV 0 rfl (j * 20 + 4) (bv (r3 ^^^ b)) ⟨ksd_apart (fun hF => by have := (HF7.out _ hF).2; omega), by simp [Res.apart] <;> omega, by simp [Res.apart] <;> omega, by simp [Res.apart] <;> omega, by simp [Res.apart, Low.rd] <;> omega, by simp [Res.apart, Low.rd] <;> omega, by simp [Res.apart] <;> omega, trivial⟩) ?_
       rw [HPUT.out]
       intro W7 hW7
       simp only [List.set_cons_zero, List.set_cons_succ] at hW7
       clear hV zf qf HPUT
       have HLN5 : Hid ((l.set j { l[j] with r := l[j].r.set 3 (r3 ^^^ b) }).length = n) := Lib.hid (by rw [List.length_set]; exact HLN.out)
       generalize l.set j { l[j] with r := l[j].r.set 3 (r3 ^^^ b) } = l5 at *
       go_wp2_with (first
      | (refine wl_load_any rfl 25 (.tmp 3) rfl ⟨g3, 0, none⟩ rfl (envC sRec Ap m cp (some ⟨G, 0, none⟩) n c5) _ (Cells.sub (hW7.at_ 2 rfl) 0 (fun j u h => by rwa [Nat.zero_add])) Try.underlying25 rfl (by kernel_rfl) ?_)
      | (refine wl_store_at hW7 3 rfl 25 (.tmp 2) (.tmp 154) rfl (g + 1) _ _ (envC sRec Ap m cp (some ⟨G, 0, none⟩) n c5) rfl rfl rfl rfl (by kernel_rfl) (envC_one _ _ _ _ _ _ _) ⟨own_below (by omega), ksd_apart (fun hF => by have := (HF7.out _ hF).1; omega), by simp [Res.apart] <;> omega, by simp [Res.apart] <;> omega, by simp [Res.apart, Low.rd] <;> omega, by simp [Res.apart, Low.rd] <;> omega, by simp [Res.apart] <;> omega, trivial⟩ ?_; intro W6 hW6 hs6; simp only [List.set_cons_zero, List.set_cons_succ] at hW6))
       refine bodyPost_ret (v := .agg (envC sRec Ap m cp (some ⟨G, 0, none⟩) n c5).toArray) ?_ rfl (md_end (kd := sRec) (kss_own (hW6.at_ 0 rfl) (HKI.out _ (hW6.at_ 1 rfl : Nest _ _ _ _ _ _ _ _ _ _ _).inn) HLN5.out) ((hW6.at_ 5 rfl : Rd W6 B 1 Ap m (pay.map bv) ∧ B ≤ W6.heap.size).1.mono (hW6.at_ 5 rfl : _ ∧ B ≤ W6.heap.size).2) HPM.out (by omega) (Nat.le_trans hcm (by decide)) (hW6.at_ 0 rfl : Go.Adm.Own W6 g7 64 20 (some ⟨G, 0, none⟩) n c5 _).cap (MadeR.any (by show sRec.size ≤ 6; decide) (by show pay.length ≤ 201; rw [HEA.out.1]; omega) HSE5.out.1 HSE5.out.2 (by rw [HSE.out]; decide) (by rw [HSE.out]; decide)) (hW6.at_ 7 rfl : _ ∧ _).1)
       exact results_cell_row rfl _ _ (g + 1) 25 (envC sRec Ap m cp (some ⟨G, 0, none⟩) n c5).toArray (0, 0) _ rfl (hW6.at_ 3 rfl) Try.underlying25 rfl (by kernel_rfl)
end Go.Proofs.Ytfakjamocpamiaa

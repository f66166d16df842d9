/- slices.Insert of one signature, whatever the capacity. -/
import Derived.Test.YtfakjamocpamiaaEnvA
import Derived.Lib.AppendZerosOnto
import Derived.Lib.Overlaps
import Derived.Laws.CopyRow
import Derived.Laws.MakeOwn
set_option linter.unusedSimpArgs false
set_option linter.unusedVariables false
set_option maxRecDepth 100000
namespace Go.Adm
open Go Go.RowKit
section
variable {P : Program} {w : World} {rs : List Res}
/-- copy of wide elements within a block that is known whole -/
theorem wl_copy_wide {ops : Array Oper} {rest : List Oper} {o : Oper} {a : Act} {Q : Exit → Act → World → Prop} {t e : TypeId} {z : Value} {size bytes : Nat} (E : ElemOf P t e z size bytes) (hR : All w rs) (j : Nat) (hgd : o.guard = none) (d s : Operand)
  (ho : o.op = .call { callee := .builtin .copy, args := #[d, s], argTypes := #[t, t] })
  (g off dLen dCap : Nat) (cs : List Value) (hC : rs[j]? = some (.cells g e cs)) (hd : a.eval d = .slice (some ⟨g, off, none⟩) dLen dCap)
  (ad : Addr) (sLen sCap k : Nat) (news : List Value) (hs : a.eval s = .slice (some ad) sLen sCap) (hk : k = Nat.min sLen dLen) (hl : news.length = k * size) (hnews : ∀ q u, news[q]? = some u → w.cell? (ad.add q) = some u) (h1 : ∀ u ∈ news, u.oneCell' = true)
  (hfit : off + news.length ≤ cs.length) (hap : Apart (some g) (rs.eraseIdx j))
  (h : ∀ w', All w' (rs.set j (.cells g e (cs.take off ++ news ++ cs.drop (off + news.length)))) → w'.heap.size = w.heap.size → wpList P ops Q rest (a.put o.dst (goInt k)) w') : wpList P ops Q (o :: rest) a w := by
 obtain ⟨i, hi, hz, hsize, hby⟩ := E.hi
 have hcell : Cells w g e cs := hR.at_ j hC
 have hf := run_firstCells_some (P := P) w i.size k ad sLen sCap news (by rw [hsize]; exact hl) hnews
 have hst := run_storeCells_at P g off e news 0 cs.toArray w hcell (by simpa using hfit) h1
 have hr : (Builtin.copy_ #[t, t] o.type #[.slice (some ⟨g, off, none⟩) dLen dCap, .slice (some ad) sLen sCap]).run P w = .ok (goInt k) (w.setRow g (cs.take off ++ news ++ cs.drop (off + news.length)).toArray) := by
  simp [Builtin.copy_, run_underlying E.ht, Builtin.lenOf, sizeOf, typeInfo, hi, ← hk, hf, hst]
 refine wpList_plain hgd fun K hK' => ?_
 unfold Oper.wp
 simp only [execOp, ho, resolve, invoke, builtin, Sem.run_bind, Sem.run_pure, Result.andThen_ok, List.map_toArray, List.map_cons, List.map_nil, hd, hs, hr]
 refine hK' _ _ (h _ (All.upd (grown_setRow w g _) j _ hR ?_ hap) (by simp [World.setRow]))
 show _ = _
 simpa using setRow_heap w g _ _ e _ hcell
end
theorem shape_cells {w : World} {g : Nat} {t : TypeId} {cs : List Value} (h : Cells w g t cs) : w.shape? g = some (t, cs.length) := by
 unfold World.shape?
 rw [h]; simp
theorem ksC_flat (l : List Ks) (h : ∀ x ∈ l, x.r.length = 16) : (l.map ksC).flatten.length = l.length * 20 :=
 (flat_len (by intro e he; obtain ⟨x, hx, rfl⟩ := List.mem_map.1 he; exact ksC_len (h x hx))).trans (by rw [List.length_map])
section
variable {P : Program} {w : World} {rs : List Res}
/-- 'append(s, make([]T, k)...)' beyond the capacity: a new block -/
theorem wl_app_zeros {ops : Array Oper} {rest : List Oper} {o : Oper} {a : Act} {Q : Exit → Act → World → Prop} {t tn e : TypeId} {z : Value} {size bytes : Nat} {kn kq : IntKind} (E : ElemOf P t e z size bytes) (htn : P.underlying tn = some (.int kn)) (hR : All w rs) (j : Nat) (hgd : o.guard = none) (s x : Operand)
  (ho : o.op = .call { callee := .builtin .append, args := #[s, x], argTypes := #[t, tn] })
  (g i c k : Nat) (cs : List Value) (hC : rs[j]? = some (.cells g e cs)) (hs : a.eval s = .slice (some ⟨g, 0, none⟩) i c) (hx : a.eval x = .int kq k) (h0 : 0 < k) (hg : c < i + k) (hfit : i * size ≤ cs.length)
  (hb : (i + k) * bytes ≤ 140737488355328)
  (h : ∀ c' w' cs', i + k ≤ c' → c' ≤ maxLen → cs'.length = c' * size → cs'.take (i * size) = cs.take (i * size) → All w' (.cells w.heap.size e cs' :: rs) → w'.heap.size = w.heap.size + 1 → wpList P ops Q rest (a.put o.dst (.slice (some ⟨w.heap.size, 0, none⟩) (i + k) c')) w') : wpList P ops Q (o :: rest) a w := by
 obtain ⟨i0, hi, hz, hsize, hby⟩ := E.hi
 have hcell : Cells w g e cs := hR.at_ j hC
 have hbp := E.hb
 have h1 : (i + k) ≤ (i + k) * bytes := Nat.le_mul_of_pos_right _ hbp
 have hold : (Builtin.firstCells i0.size i (.slice (some ⟨g, 0, none⟩) i c)).run P w.drew = .ok (cs.take (i * size)).toArray w.drew := by
  rw [hsize]
  refine run_firstCells_some (w := w.drew) size i ⟨g, 0, none⟩ i c (cs.take (i * size)) (by rw [List.length_take]; omega) fun q v hv => ?_
  rw [add_lit]
  show w.cell? _ = some v
  rw [cell_of_row w g _ cs.toArray e (0, 0) hcell, Nat.zero_add]
  rw [List.getElem?_take] at hv
  split at hv
  ·simpa using hv
  ·cases hv
 have hkb : k * bytes ≤ (i + k) * bytes := Nat.mul_le_mul_right _ (by omega)
 have hr := Lib.run_append_grow_zeros w t tn o.type e i0 z kq kn E.ht htn hi hz (some ⟨g, 0, none⟩) i c _ hold k h0 (by rw [hsize]; exact E.hs) hg (by omega) (by rw [hby]; omega) (by rw [hby]; exact growslice_fits hg hb)
 have hcge := grownCap_ge w (i + k) c e
 have hcle := grownCap_le_maxLen w (i + k) c e (by simp only [maxLen]; omega)
 refine wpList_plain hgd fun K hK' => ?_
 unfold Oper.wp
 simp only [execOp, ho, resolve, invoke, builtin, Sem.run_bind, Sem.run_pure, Result.andThen_ok, List.map_toArray, List.map_cons, List.map_nil, hs, hx, hr]
 refine hK' _ _ (h (grownCap w (i + k) c e) _ _ hcge hcle ?_ ?_ (All.new hR.drew _ e rfl rfl) (by simp))
 ·simp only [Array.toList_append, List.length_append, Array.length_toList, size_zeroCells, E.hz, List.length_take]
  rw [Nat.min_eq_left hfit, ← Nat.add_mul, ← Nat.add_mul]
  congr 1
  omega
 ·rw [Array.toList_append, Array.toList_append, List.append_assoc, List.take_append_of_le_length (by simp only [List.length_take]; omega)]
  rw [List.take_take, Nat.min_self]
end
/-- the two copies of an insertion: the part behind goes one further, the blob comes into its place -/
theorem ins_cells2 {cs : List Value} {l : List Ks} {x : Ks} {n i c : Nat} (hcs : cs.take (n * 20) = (l.map ksC).flatten) (hlen : cs.length = c * 20) (hc : n + 1 ≤ c) (hl : l.length = n) (h32 : ∀ y ∈ l, y.r.length = 16) (hx : (ksC x).length = 20) (hi : i < n) :
  (cs.drop (i * 20)).take ((n - i) * 20) = ((l.drop i).map ksC).flatten ∧ ((l.drop i).map ksC).flatten.length = (n - i) * 20 ∧
  (cs.take ((i + 1) * 20) ++ ((l.drop i).map ksC).flatten ++ cs.drop ((i + 1) * 20 + ((l.drop i).map ksC).flatten.length)).length = c * 20 ∧
  ((cs.take ((i + 1) * 20) ++ ((l.drop i).map ksC).flatten ++ cs.drop ((i + 1) * 20 + ((l.drop i).map ksC).flatten.length)).take (i * 20) ++ ksC x ++
   (cs.take ((i + 1) * 20) ++ ((l.drop i).map ksC).flatten ++ cs.drop ((i + 1) * 20 + ((l.drop i).map ksC).flatten.length)).drop (i * 20 + (ksC x).length)).take ((n + 1) * 20) = ((l.take i ++ x :: l.drop i).map ksC).flatten := by
 have heach : ∀ e ∈ l.map ksC, e.length = 20 := fun e he => by
  obtain ⟨y, hy, rfl⟩ := List.mem_map.1 he
  exact ksC_len (h32 y hy)
 have h1 : (cs.drop (i * 20)).take ((n - i) * 20) = ((l.drop i).map ksC).flatten := by
  rw [List.map_drop, ← flat_drop i heach, ← hcs, List.drop_take]
  congr 1
  omega
 have h2 : ((l.drop i).map ksC).flatten.length = (n - i) * 20 := by
  rw [ksC_flat _ (fun y hy => h32 y (List.mem_of_mem_drop hy)), List.length_drop, hl]
 have h4 : cs.take (i * 20) = ((l.take i).map ksC).flatten := by
  rw [List.map_take, ← flat_take i heach, ← hcs, List.take_take, Nat.min_eq_left (by omega)]
 refine ⟨h1, h2, ?_, ?_⟩
 ·rw [List.length_append, List.length_append, List.length_take, List.length_drop, h2]; omega
 ·have h6 : (cs.take ((i + 1) * 20)).length = (i + 1) * 20 := by rw [List.length_take]; omega
  generalize hr : cs.drop ((i + 1) * 20 + ((l.drop i).map ksC).flatten.length) = r
  have h7 : (cs.take ((i + 1) * 20) ++ ((l.drop i).map ksC).flatten ++ r).take (i * 20) = ((l.take i).map ksC).flatten := by
   rw [List.append_assoc, List.take_append_of_le_length (by omega), List.take_take, Nat.min_eq_left (by omega), h4]
  have h8 : (cs.take ((i + 1) * 20) ++ ((l.drop i).map ksC).flatten ++ r).drop (i * 20 + (ksC x).length) = ((l.drop i).map ksC).flatten ++ r := by
   rw [List.append_assoc, List.drop_left' (by rw [h6, hx]; omega)]
  rw [h7, h8, ← List.append_assoc, List.take_left' (by
   rw [List.length_append, List.length_append, h2, hx, ksC_flat _ (fun y hy => h32 y (List.mem_of_mem_take hy)), List.length_take]; omega)]
  simp
theorem zer_cells {cs cs2 : List Value} {l : List Ks} {x : Ks} {n i c c' : Nat} (hcs : cs.take (n * 20) = (l.map ksC).flatten) (hlen : cs.length = c * 20) (hc : n ≤ c) (hl : l.length = n) (h32 : ∀ y ∈ l, y.r.length = 16) (hx : (ksC x).length = 20) (hi : i < n)
  (hl2 : cs2.length = c' * 20) (hc' : n + 1 ≤ c') (ht : cs2.take (i * 20) = cs.take (i * 20)) :
  (cs.drop (i * 20)).take ((n - i) * 20) = ((l.drop i).map ksC).flatten ∧ ((l.drop i).map ksC).flatten.length = (n - i) * 20 ∧
  (cs2.take (i * 20) ++ ksC x ++ cs2.drop (i * 20 + (ksC x).length)).length = c' * 20 ∧
  ((cs2.take (i * 20) ++ ksC x ++ cs2.drop (i * 20 + (ksC x).length)).take ((i + 1) * 20) ++ ((l.drop i).map ksC).flatten ++
   (cs2.take (i * 20) ++ ksC x ++ cs2.drop (i * 20 + (ksC x).length)).drop ((i + 1) * 20 + ((l.drop i).map ksC).flatten.length)).length = c' * 20 ∧
  ((cs2.take (i * 20) ++ ksC x ++ cs2.drop (i * 20 + (ksC x).length)).take ((i + 1) * 20) ++ ((l.drop i).map ksC).flatten ++
   (cs2.take (i * 20) ++ ksC x ++ cs2.drop (i * 20 + (ksC x).length)).drop ((i + 1) * 20 + ((l.drop i).map ksC).flatten.length)).take ((n + 1) * 20) = ((l.take i ++ x :: l.drop i).map ksC).flatten := by
 have heach : ∀ e ∈ l.map ksC, e.length = 20 := fun e he => by
  obtain ⟨y, hy, rfl⟩ := List.mem_map.1 he
  exact ksC_len (h32 y hy)
 have h1 : (cs.drop (i * 20)).take ((n - i) * 20) = ((l.drop i).map ksC).flatten := by
  rw [List.map_drop, ← flat_drop i heach, ← hcs, List.drop_take]
  congr 1
  omega
 have h2 : ((l.drop i).map ksC).flatten.length = (n - i) * 20 := by
  rw [ksC_flat _ (fun y hy => h32 y (List.mem_of_mem_drop hy)), List.length_drop, hl]
 have h4 : cs2.take (i * 20) = ((l.take i).map ksC).flatten := by
  rw [ht, List.map_take, ← flat_take i heach, ← hcs, List.take_take, Nat.min_eq_left (by omega)]
 have h3 : (cs2.take (i * 20) ++ ksC x ++ cs2.drop (i * 20 + (ksC x).length)).length = c' * 20 := by
  rw [List.length_append, List.length_append, List.length_take, List.length_drop, hx]; omega
 have h5 : (cs2.take (i * 20) ++ ksC x ++ cs2.drop (i * 20 + (ksC x).length)).take ((i + 1) * 20) = ((l.take i).map ksC).flatten ++ ksC x := by
  rw [List.take_left' (by rw [List.length_append, List.length_take, hx]; omega), h4]
 refine ⟨h1, h2, h3, ?_, ?_⟩
 ·rw [List.length_append, List.length_append, List.length_take, List.length_drop, h2, h3]; omega
 ·rw [h5, List.take_left' (by
   rw [List.length_append, List.length_append, h2, hx, ksC_flat _ (fun y hy => h32 y (List.mem_of_mem_take hy)), List.length_take]; omega)]
  simp
theorem app_cells2 {cs : List Value} {l : List Ks} {x : Ks} {n : Nat} (hcs : cs.take (n * 20) = (l.map ksC).flatten) (hl : l.length = n) :
  (l.map ksC).flatten ++ ksC x = ((l.take n ++ x :: l.drop n).map ksC).flatten := by
 rw [List.take_of_length_le (by omega), List.drop_of_length_le (by omega)]
 simp
theorem app_form {w w5 : World} {t : TypeId} {g n c c5 : Nat} {A5 : Option Addr} {xs news : List Value} (h : Own w5 0 t 20 A5 (n + 1) c5 (xs ++ news)) (hb : (Value.slice A5 (n + 1) c5).ownBlock = (Value.slice (some ⟨g, 0, none⟩) n c).ownBlock ∨ (Value.slice A5 (n + 1) c5).ownBlock = some w.heap.size) (hn : 0 < n + 1) :
  ∃ g' cs', A5 = some ⟨g', 0, none⟩ ∧ (g' = g ∨ w.heap.size ≤ g') ∧ n + 1 ≤ c5 ∧ c5 ≤ maxLen ∧ cs'.length = c5 * 20 ∧ cs'.take ((n + 1) * 20) = xs ++ news ∧ Cells w5 g' t cs' := by
 rcases h.2 with ⟨h1, h2⟩ | ⟨g', cap, cur, hv, _, hh, h1, h2, h3, h4⟩
 ·omega
 ·injection hv with e1 e2 e3
  subst e1 e3
  refine ⟨g', cur.toList, rfl, ?_, h1, h2, by simpa using h3, h4, by simpa [Cells] using hh⟩
  rcases hb with hb | hb
  ·exact Or.inl (by injection hb)
  ·exact Or.inr (Nat.le_of_eq (by injection hb with hb; exact hb.symm))
end Go.Adm
namespace Go.Proofs.Ytfakjamocpamiaa
open Go Go.RowKit Go.Adm

set_option maxHeartbeats 3200000 in
theorem Insert_gen (w : World) (rs : List Res) (g g2 n c i : Nat) (cs : List Value) (l : List Ks) (x : Ks) (hR : All w (.cells g 64 cs :: .cells g2 64 (ksC x) :: rs)) (hap : Apart (some g) rs) (hfar : ∀ b, w.heap.size ≤ b → Apart (some b) rs) (hne : g2 ≠ g)
  (hlen : cs.length = c * 20) (hnc : n ≤ c) (hcm : c ≤ maxLen) (hcs : cs.take (n * 20) = (l.map ksC).flatten) (hl : l.length = n) (h32 : ∀ y ∈ l, y.r.length = 16) (hx : x.r.length = 16) (hi : i ≤ n) (hn2 : n ≤ 1000000) :
  Calls Try.prog 43 #[.slice (some ⟨g, 0, none⟩) n c, .int .i64 i, .slice (some ⟨g2, 0, none⟩) 1 1] w fun e w' => ∃ g' c' cs', e = .returned (.slice (some ⟨g', 0, none⟩) (n + 1) c') ∧ (g' = g ∨ w.heap.size ≤ g') ∧ n + 1 ≤ c' ∧ c' ≤ maxLen ∧ cs'.length = c' * 20 ∧ cs'.take ((n + 1) * 20) = ((l.take i ++ x :: l.drop i).map ksC).flatten ∧
   All w' (.cells g' 64 cs' :: .cells g2 64 (ksC x) :: rs) := by
 have hcm' : c ≤ 9223372036854775807 := hcm
 clear hcm
 have hx20 := Lib.hid (ksC_len hx)
 have HL := Lib.hid hlen
 have HCS := Lib.hid hcs
 have HN := Lib.hid hl
 have H32 := Lib.hid h32
 clear hlen hcs hl h32 hx
 have wi0 : (0 : Int) ≤ (i : Int) := by omega
 have wi1 : (i : Int) ≤ (n : Int) := by omega
 have wi2 : (i : Int) ≤ (c : Int) := by omega
 have w1 : IntKind.i64.wrap ((n : Int) + 1) = (n : Int) + 1 := by rw [IntWalk.i64_in _ (by omega)]
 have w2 : IntKind.i64.wrap ((i : Int) + 1) = (i : Int) + 1 := by rw [IntWalk.i64_in _ (by omega)]
 go_enter Try.func43, Try.ntmps43
 by_cases hin : i = n
 ·subst hin
  have d1 : ((i : Int) == (i : Int)) = true := by simp
  have hown : Go.Adm.Own w 0 64 20 (some ⟨g, 0, none⟩) i c (l.map ksC).flatten := ⟨by rw [ksC_flat _ H32.out, HN.out], .inr ⟨g, c, cs.toArray, rfl, Nat.zero_le _, hR.at_ 0 rfl, hnc, hcm', by simpa using HL.out, by simpa using HCS.out⟩⟩
  by_cases hci : c = i
  ·subst hci
   go_wp2_with (at_builtin; refine wl_app6 _ el_ks rfl (.tmp 23) (.tmp 24) rfl 0 _ _ _ _ rfl hown (g2 + 1) _ 1 1 (ksC x) rfl ⟨by rw [hx20.out], fun _ => ⟨⟨g2, 0, none⟩, rfl, Nat.lt_succ_self _, Cells.sub (hR.at_ 1 rfl) 0 (fun j u h => by simpa [Nat.zero_add] using h)⟩⟩ (ksC_one x) (by omega) (Nat.zero_le _) ?_; intro A5 c5 w5 ho5 hg5 hb5)
   go_ret
   have hform := app_form ho5 hb5 (by omega)
   obtain ⟨g', cs', rfl, h1, h2, h3, h4, h5⟩ := hform
   refine ⟨g', c5, cs', rfl, h1, h2, h3, h4, by rw [h5.1]; exact app_cells2 HCS.out HN.out, h5.2, (All.step hg5 (hR.2 : All w (.cells g2 64 (ksC x) :: rs)) ⟨fun e => hne (by injection e), hap⟩)⟩
  ·have hci' : ¬ (c = i) := hci
   go_wp2_with (at_builtin; refine wl_app6 _ el_ks rfl (.tmp 23) (.tmp 24) rfl 0 _ _ _ _ rfl hown (g2 + 1) _ 1 1 (ksC x) rfl ⟨by rw [hx20.out], fun _ => ⟨⟨g2, 0, none⟩, rfl, Nat.lt_succ_self _, Cells.sub (hR.at_ 1 rfl) 0 (fun j u h => by simpa [Nat.zero_add] using h)⟩⟩ (ksC_one x) (by omega) (Nat.zero_le _) ?_; intro A5 c5 w5 ho5 hg5 hb5)
   go_ret
   have hform := app_form ho5 hb5 (by omega)
   obtain ⟨g', cs', rfl, h1, h2, h3, h4, h5⟩ := hform
   refine ⟨g', c5, cs', rfl, h1, h2, h3, h4, by rw [h5.1]; exact app_cells2 HCS.out HN.out, h5.2, (All.step hg5 (hR.2 : All w (.cells g2 64 (ksC x) :: rs)) ⟨fun e => hne (by injection e), hap⟩)⟩
 ·have hlt : i < n := by omega
  have d1 : ((i : Int) == (n : Int)) = false := by simp; omega
  have d2 : (i == n) = false := by simp; omega
  have wi7 : ¬ (n = i) := by omega
  have wi8 : ¬ (c = i) := by omega
  have wi5 : (i : Int) + 1 ≤ (n : Int) + 1 := by omega
  have wi6 : (0 : Int) ≤ (i : Int) + 1 := by omega
  have hwi : ((i : Int) + 1).toNat = i + 1 := by omega
  have hwn : ((n : Int) + 1).toNat = n + 1 := by omega
  clear hin
  by_cases hcn : c < n + 1
  ·obtain rfl : n = c := by omega
   have d3 : decide ((n : Int) < (n : Int) + 1) = true := by simp; omega
   have w3 : IntKind.i64.wrap ((n : Int) + 1 - (i : Int)) = ((n + 1 - i : Nat) : Int) := by rw [IntWalk.i64_in _ (by omega)]; omega
   go_upto_region 10 with (at_builtin; refine wl_app_zeros (t := 23) (tn := 3) (kn := .i64) el_ks Try.underlying3 hR 0 rfl (.tmp 34) (.tmp 39) rfl g i n (n + 1 - i) cs rfl rfl (by simp only [Act.eval, Array.getD_eq_getD_getElem?]; exact congrArg (Value.int .i64) (by omega)) (by omega) (by omega) (by rw [HL.out]; omega) (by omega) ?_; intro c2 W4 cs2 hc2 hm2 hl2 ht2 hW4 hs4)
   have hik : i + (n + 1 - i) = n + 1 := by omega
   have hgG : g < w.heap.size := Cells.lt (hR.at_ 0 rfl)
   have hg2G : g2 < w.heap.size := Cells.lt (hR.at_ 1 rfl)
   have hfG := hfar w.heap.size (Nat.le_refl _)
   obtain ⟨G, hG⟩ : ∃ G, G = w.heap.size := ⟨_, rfl⟩
   simp only [hik]
   rw [hik] at hc2
   obtain ⟨f1, f2, f3, f4, f5⟩ := zer_cells HCS.out HL.out (Nat.le_refl _) HN.out H32.out hx20.out hlt hl2 hc2 ht2
   have F1 := Lib.hid f1
   have F2 := Lib.hid f2
   have F3 := Lib.hid f3
   have F4 := Lib.hid f4
   have F5 := Lib.hid f5
   have HL2 := Lib.hid hl2
   rw [← hG] at hW4 hgG hg2G hfG ⊢
   have HGW : Hid (w.heap.size ≤ G) := Lib.hid (by omega)
   have hm2' : c2 ≤ 9223372036854775807 := hm2
   have wj1 : ¬ (c2 = i) := by omega
   have wj2 : ¬ (c2 = i + 1) := by omega
   have wj3 : (i : Int) ≤ (n : Int) + 1 := by omega
   have hapG : Apart (some G) (.cells g 64 cs :: .cells g2 64 (ksC x) :: rs) := ⟨by simp [Res.apart]; omega, by simp [Res.apart]; omega, hfG⟩
   clear f1 f2 f3 f4 f5 hl2 ht2 hik hR hfG hs4 hG hm2
   go_wp2_with (refine wl_copy_wide el_ks hW4 0 rfl (.tmp 43) (.tmp 44) rfl G (i * 20) (n + 1 - i) (c2 - i) cs2 rfl rfl ⟨g2, 0, none⟩ 1 1 1 (ksC x) rfl (Nat.min_eq_left (by omega)).symm (by rw [hx20.out]) (Cells.sub (hW4.at_ 2 rfl) 0 (fun j u h => by simpa [Nat.zero_add] using h)) (ksC_one x) (by rw [HL2.out, hx20.out]; omega) hapG ?_; intro W5 hW5 hs5)
   refine wp_region_hops 8 [46, 47, 48, 49, 50, 51, 52, 53] (.cells G 64 (cs2.take (i * 20) ++ ksC x ++ cs2.drop (i * 20 + (ksC x).length)) :: .cells g 64 cs :: .cells g2 64 (ksC x) :: rs)
    [.eq (.slice (some ⟨G, 0, none⟩) (n + 1) c2), .eq (.int .i64 i), .eq (.int .i64 1), .eq (.int .i64 ((i : Int) + 1)), .eq (.slice (some ⟨G, (i + 1) * 20, none⟩) (n - i) (c2 - (i + 1))), .eq (.slice (some ⟨g, 0, none⟩) n n), .eq (.int .i64 i), .eq (.slice (some ⟨g, i * 20, none⟩) (n - i) (n - i))]
    (by kernel_rfl) (by kernel_rfl) hW5 rfl ?hops ?fin
   case hops =>
    refine ⟨?_, ?_, ?_, ?_, ?_, ?_, ?_, ?_, trivial⟩
    ·intro a W hW hb hd K hK
     have b9 := hb 9 rfl
     go_simp
     exact hK _ _ (World.grownBy.refl _ _) rfl
    ·intro a W hW hb hd K hK
     have b1 := hb 1 rfl
     go_simp
     exact hK _ _ (World.grownBy.refl _ _) rfl
    ·intro a W hW hb hd K hK
     have b7 := hb 7 rfl
     go_simp
     exact hK _ _ (World.grownBy.refl _ _) rfl
    ·intro a W hW hb hd K hK
     have b47 : a.tmps[47]?.getD undef = _ := hd ⟨1, .data⟩ (by simp) rfl
     have b48 : a.tmps[48]?.getD undef = _ := hd ⟨2, .data⟩ (by simp) rfl
     go_simp
     exact hK _ _ (World.grownBy.refl _ _) rfl
    ·intro a W hW hb hd K hK
     have b46 : a.tmps[46]?.getD undef = _ := hd ⟨0, .data⟩ (by simp) rfl
     have b49 : a.tmps[49]?.getD undef = _ := hd ⟨3, .data⟩ (by simp) rfl
     go_simp
     exact hK _ _ (World.grownBy.refl _ _) rfl
    ·intro a W hW hb hd K hK
     have b0 := hb 0 rfl
     go_simp
     exact hK _ _ (World.grownBy.refl _ _) rfl
    ·intro a W hW hb hd K hK
     have b1 := hb 1 rfl
     go_simp
     exact hK _ _ (World.grownBy.refl _ _) rfl
    ·intro a W hW hb hd K hK
     have b51 : a.tmps[51]?.getD undef = _ := hd ⟨5, .data⟩ (by simp) rfl
     have b52 : a.tmps[52]?.getD undef = _ := hd ⟨6, .data⟩ (by simp) rfl
     go_simp
     exact hK _ _ (World.grownBy.refl _ _) rfl
   case fin =>
    intro vs w6 hD hv
    have e4 : vs 4 = _ := hv 4 (by decide)
    have e7 : vs 7 = _ := hv 7 (by decide)
    clear hv hW5
    simp only [putAll, List.drop_succ_cons, List.drop_zero, e4, e7, Act.put, List.setIfInBounds_toArray, List.set_cons_succ, List.set_cons_zero]
    clear e4 e7
    refine wl_copy_wide el_ks hD 0 rfl (.tmp 50) (.tmp 53) rfl G ((i + 1) * 20) (n - i) (c2 - (i + 1)) _ rfl rfl ⟨g, i * 20, none⟩ (n - i) (n - i) (n - i) ((l.drop i).map ksC).flatten rfl (Nat.min_self _).symm F2.out (Cells.sub (hD.at_ 1 rfl) (i * 20) (fun j u h => by { rw [← F1.out, List.getElem?_take] at h; split at h; { rw [List.getElem?_drop] at h; exact h }; { cases h } })) (fun v hv => by { obtain ⟨q, hq, hv⟩ := List.mem_flatten.1 hv; obtain ⟨y, _, rfl⟩ := List.mem_map.1 hq; exact ksC_one y v hv }) (by rw [F2.out, F3.out]; omega) hapG ?_
    intro W7 hW7 hs7
    go_wp2_with fail
    go_ret
    exact ⟨G, c2, _, rfl, Or.inr HGW.out, hc2, hm2', F4.out, F5.out, hW7.at_ 0 rfl, hW7.2.2⟩
  ·have d3 : decide ((c : Int) < (n : Int) + 1) = false := by simp; omega
   have hcn1 : n + 1 ≤ c := by omega
   have wj1 : ¬ (c = i + 1) := by omega
   have wj3 : (n : Int) + 1 ≤ (c : Int) := by omega
   have wj4 : (i : Int) ≤ (n : Int) + 1 := by omega
   have hI0 := hR
   clear hR
   go_upto_region 14 with (fail)
   go_wp2_with fail
   rw [run_callFunc_extern Try.func70 (by kernel_rfl) (by kernel_rfl) (by kernel_rfl) (e := Extern.SlicesOverlaps.overlaps #[23, 23] #[4]) (by kernel_rfl),
    Lib.run_overlaps_apart w 23 4 64 el_ks.ht 20 (fun w => by kernel_rfl) ⟨g2, 0, none⟩ ⟨g, (i + 1) * 20, none⟩ 1 1 (n - i) (c - (i + 1)) hne _ _ _ _ (shape_cells (hI0.at_ 1 rfl)) (shape_cells (hI0.at_ 0 rfl)) (by rw [HL.out]; omega) (Cells.frozen (hI0.at_ 1 rfl) _) (Cells.frozen (hI0.at_ 1 rfl) _)]
   go_upto_region 15 with (fail)
   refine wp_region_hops 8 [69, 70, 71, 72, 73, 74, 75, 76] (.cells g 64 cs :: .cells g2 64 (ksC x) :: rs)
    [.eq (.slice (some ⟨g, 0, none⟩) (n + 1) c), .eq (.int .i64 i), .eq (.int .i64 1), .eq (.int .i64 ((i : Int) + 1)), .eq (.slice (some ⟨g, (i + 1) * 20, none⟩) (n - i) (c - (i + 1))), .eq (.slice (some ⟨g, 0, none⟩) (n + 1) c), .eq (.int .i64 i), .eq (.slice (some ⟨g, i * 20, none⟩) (n + 1 - i) (c - i))]
    (by kernel_rfl) (by kernel_rfl) hI0 rfl ?hops ?fin
   case hops =>
    refine ⟨?_, ?_, ?_, ?_, ?_, ?_, ?_, ?_, trivial⟩
    ·intro a W hW hb hd K hK
     have b0 := hb 0 rfl
     go_simp
     exact hK _ _ (World.grownBy.refl _ _) rfl
    ·intro a W hW hb hd K hK
     have b1 := hb 1 rfl
     go_simp
     exact hK _ _ (World.grownBy.refl _ _) rfl
    ·intro a W hW hb hd K hK
     have b7 := hb 7 rfl
     go_simp
     exact hK _ _ (World.grownBy.refl _ _) rfl
    ·intro a W hW hb hd K hK
     have b70 : a.tmps[70]?.getD undef = _ := hd ⟨1, .data⟩ (by simp) rfl
     have b71 : a.tmps[71]?.getD undef = _ := hd ⟨2, .data⟩ (by simp) rfl
     go_simp
     exact hK _ _ (World.grownBy.refl _ _) rfl
    ·intro a W hW hb hd K hK
     have b69 : a.tmps[69]?.getD undef = _ := hd ⟨0, .data⟩ (by simp) rfl
     have b72 : a.tmps[72]?.getD undef = _ := hd ⟨3, .data⟩ (by simp) rfl
     go_simp
     exact hK _ _ (World.grownBy.refl _ _) rfl
    ·intro a W hW hb hd K hK
     have b0 := hb 0 rfl
     go_simp
     exact hK _ _ (World.grownBy.refl _ _) rfl
    ·intro a W hW hb hd K hK
     have b1 := hb 1 rfl
     go_simp
     exact hK _ _ (World.grownBy.refl _ _) rfl
    ·intro a W hW hb hd K hK
     have b74 : a.tmps[74]?.getD undef = _ := hd ⟨5, .data⟩ (by simp) rfl
     have b75 : a.tmps[75]?.getD undef = _ := hd ⟨6, .data⟩ (by simp) rfl
     go_simp
     exact hK _ _ (World.grownBy.refl _ _) rfl
   case fin =>
    intro vs w6 hD hv
    have e4 : vs 4 = _ := hv 4 (by decide)
    have e7 : vs 7 = _ := hv 7 (by decide)
    clear hv hI0
    simp only [putAll, List.drop_succ_cons, List.drop_zero, e4, e7, Act.put, List.setIfInBounds_toArray, List.set_cons_succ, List.set_cons_zero]
    clear e4 e7
    obtain ⟨f1, f2, f3, f4⟩ := ins_cells2 HCS.out HL.out hcn1 HN.out H32.out hx20.out hlt
    have F1 := Lib.hid f1
    have F2 := Lib.hid f2
    have F3 := Lib.hid f3
    have F4 := Lib.hid f4
    clear f1 f2 f3 f4
    refine wl_copy_wide el_ks hD 0 rfl (.tmp 73) (.tmp 76) rfl g ((i + 1) * 20) (n - i) (c - (i + 1)) cs rfl rfl ⟨g, i * 20, none⟩ (n + 1 - i) (c - i) (n - i) ((l.drop i).map ksC).flatten rfl (Nat.min_eq_right (by omega)).symm F2.out (Cells.sub (hD.at_ 0 rfl) (i * 20) (fun j u h => by { rw [← F1.out, List.getElem?_take] at h; split at h; { rw [List.getElem?_drop] at h; exact h }; { cases h } })) (fun v hv => by { obtain ⟨q, hq, hv⟩ := List.mem_flatten.1 hv; obtain ⟨y, _, rfl⟩ := List.mem_map.1 hq; exact ksC_one y v hv }) (by rw [F2.out, HL.out]; omega) ⟨by simp [Res.apart]; omega, hap⟩ ?_
    intro W7 hW7 hs7
    go_wp2_with (refine wl_copy_wide el_ks hW7 0 rfl (.tmp 80) (.tmp 81) rfl g (i * 20) (n + 1 - i) (c - i) _ rfl rfl ⟨g2, 0, none⟩ 1 1 1 (ksC x) rfl (Nat.min_eq_left (by omega)).symm (by rw [hx20.out]) (Cells.sub (hW7.at_ 1 rfl) 0 (fun j u h => by simpa [Nat.zero_add] using h)) (ksC_one x) (by rw [F3.out, hx20.out]; omega) ⟨by simp [Res.apart]; omega, hap⟩ ?_; intro W8 hW8 hs8)
    go_ret
    refine ⟨g, c, _, rfl, Or.inl rfl, hcn1, hcm', ?_, F4.out, hW8.at_ 0 rfl, hW8.2⟩
    rw [List.length_append, List.length_append, List.length_take, List.length_drop, hx20.out, F3.out]; omega
end Go.Proofs.Ytfakjamocpamiaa

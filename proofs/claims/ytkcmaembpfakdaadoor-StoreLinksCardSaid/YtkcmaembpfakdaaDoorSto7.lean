/- Copies of blobs and of stores. -/
import Derived.Test.YtkcmaembpfakdaaDoorSto6
import Derived.Laws.CopyRow
import Derived.Laws.MakeOwn
set_option linter.unusedSimpArgs false
set_option linter.unusedVariables false
set_option maxRecDepth 100000
namespace Go.Adm
open Go Go.RowKit
section
variable {P : Program} {w : World} {rs : List Res}
/-- make, at the operation -/
theorem wl_make {ops : Array Oper} {rest : List Oper} {o : Oper} {a : Act} {Q : Exit → Act → World → Prop} {t e : TypeId} {z : Value} {size bytes : Nat} (E : ElemOf P t e z size bytes) (hR : All w rs) (hgd : o.guard = none) (l c : Operand) (ho : o.op = .makeSlice t l c)
    (n m : Nat) (hl : a.eval l = .int .i64 n) (hc : a.eval c = .int .i64 m) (hnm : n ≤ m) (hb : bytes * m ≤ 281474976710656)
    (h : ∀ w', All w' (.cells w.heap.size e (madeCells z.cells (m * size)).toList :: rs) → w'.heap.size = w.heap.size + 1 → wpList P ops Q rest (a.put o.dst (.slice (some ⟨w.heap.size, 0, none⟩) n m)) w') : wpList P ops Q (o :: rest) a w := by
  obtain ⟨i, hi, hz, hsize, hby⟩ := E.hi
  have hm : m ≤ 281474976710656 := Nat.le_trans (Nat.le_mul_of_pos_left m E.hb) hb
  have hr := run_make (P := P) w t e i z E.ht hi hz .i64 .i64 n m (by omega) (by omega) (by rw [hby]; rw [← Int.natCast_mul]; omega) (by omega)
  rw [hsize, Int.toNat_natCast, Int.toNat_natCast] at hr
  refine wpList_plain hgd fun K hK' => ?_
  unfold Oper.wp
  simp only [execOp, ho, hl, hc, Sem.run_bind, hr, Result.andThen_ok, Sem.run_pure]
  exact hK' _ _ (h _ (hR.new _ e rfl rfl) (by simp))
/-- append within the capacity onto a block that is known whole -/
theorem wl_app_cells {ops : Array Oper} {rest : List Oper} {o : Oper} {a : Act} {Q : Exit → Act → World → Prop} {t e : TypeId} {z : Value} {size bytes : Nat} (E : ElemOf P t e z size bytes) (hR : All w rs) (j : Nat) (hgd : o.guard = none) (s x : Operand)
    (ho : o.op = .call { callee := .builtin .append, args := #[s, x], argTypes := #[t, t] })
    (g n c0 : Nat) (cs : List Value) (hC : rs[j]? = some (.cells g e cs)) (hs : a.eval s = .slice (some ⟨g, 0, none⟩) n c0)
    (ad : Addr) (m c : Nat) (news : List Value) (hx : a.eval x = .slice (some ad) m c) (hl : news.length = m * size) (hnews : ∀ q u, news[q]? = some u → w.cell? (ad.add q) = some u) (h1 : ∀ u ∈ news, u.oneCell' = true)
    (hroom : n + m ≤ c0) (hfit : n * size + news.length ≤ cs.length) (hap : Apart (some g) (rs.eraseIdx j))
    (h : ∀ w', All w' (rs.set j (.cells g e (cs.take (n * size) ++ news ++ cs.drop (n * size + news.length)))) → w'.heap.size = w.heap.size → wpList P ops Q rest (a.put o.dst (.slice (some ⟨g, 0, none⟩) (n + m) c0)) w') : wpList P ops Q (o :: rest) a w := by
  obtain ⟨i, hi, hz, hsize, hby⟩ := E.hi
  have hcell : Cells w g e cs := hR.at_ j hC
  have hr := run_append_room (P := P) w t o.type e i E.ht hi g n c0 cs.toArray hcell ad m c news (by rw [hsize]; exact hl) hnews h1 hroom (by rw [hsize]; simpa using hfit)
  rw [hsize] at hr
  refine wpList_plain hgd fun K hK' => ?_
  unfold Oper.wp
  simp only [execOp, ho, resolve, invoke, builtin, Sem.run_bind, Sem.run_pure, Result.andThen_ok, List.map_toArray, List.map_cons, List.map_nil, hs, hx, hr]
  refine hK' _ _ (h _ (All.upd (grown_setRow w g _) j _ hR ?_ hap) (by simp [World.setRow]))
  show _ = _
  simpa using setRow_heap w g _ _ e _ hcell
/-- copy of wide elements within a block that is known whole -/
theorem wl_copy_wide {ops : Array Oper} {rest : List Oper} {o : Oper} {a : Act} {Q : Exit → Act → World → Prop} {t e : TypeId} {z : Value} {size bytes : Nat} (E : ElemOf P t e z size bytes) (hR : All w rs) (j : Nat) (hgd : o.guard = none) (d s : Operand)
    (ho : o.op = .call { callee := .builtin .copy, args := #[d, s], argTypes := #[t, t] })
    (g off dLen dCap : Nat) (cs : List Value) (hC : rs[j]? = some (.cells g e cs)) (hd : a.eval d = .slice (some ⟨g, off, none⟩) dLen dCap)
    (ad : Addr) (sLen sCap k : Nat) (news : List Value) (hs : a.eval s = .slice (some ad) sLen sCap) (hk : k = Nat.min sLen dLen) (hl : news.length = k * size) (hnews : ∀ q u, news[q]? = some u → w.cell? (ad.add q) = some u) (h1 : ∀ u ∈ news, u.oneCell' = true)
    (hfit : off + news.length ≤ cs.length) (hap : Apart (some g) (rs.eraseIdx j))
    (h : ∀ w', All w' (rs.set j (.cells g e (cs.take off ++ news ++ cs.drop (off + news.length)))) → w'.heap.size = w.heap.size → wpList P ops Q rest (a.put o.dst (goInt k)) w') : wpList P ops Q (o :: rest) a w := by
  obtain ⟨i, hi, hz, hsize, hby⟩ := E.hi
  have hcell : Cells w g e cs := hR.at_ j hC
  have hf := run_firstCells_some (P := P) w i.size k ad sLen sCap news (by rw [hsize]; exact hl) hnews
  have hst := run_storeCells_at P g off e news 0 cs.toArray w hcell (by simpa using hfit) h1
  have hr : (Builtin.copy_ #[t, t] o.type #[.slice (some ⟨g, off, none⟩) dLen dCap, .slice (some ad) sLen sCap]).run P w = .ok (goInt k) (w.setRow g (cs.take off ++ news ++ cs.drop (off + news.length)).toArray) := by
    simp [Builtin.copy_, run_underlying E.ht, Builtin.lenOf, sizeOf, typeInfo, hi, ← hk, hf, hst]
  refine wpList_plain hgd fun K hK' => ?_
  unfold Oper.wp
  simp only [execOp, ho, resolve, invoke, builtin, Sem.run_bind, Sem.run_pure, Result.andThen_ok, List.map_toArray, List.map_cons, List.map_nil, hd, hs, hr]
  refine hK' _ _ (h _ (All.upd (grown_setRow w g _) j _ hR ?_ hap) (by simp [World.setRow]))
  show _ = _
  simpa using setRow_heap w g _ _ e _ hcell
end
theorem madeCells_len (z : Array Value) (n : Nat) : (madeCells z n).toList.length = n := by rw [Array.length_toList]; exact size_madeCells z n
/-- the data of blobs, in blocks above g -/
def DatF (l : List Bl) : Nat → Prop := fun b => ∃ x ∈ l, ∃ ad, x.A = some ad ∧ ad.block = b
def DatI (l : List Bl) (w : World) : Prop := ∀ x ∈ l, BlOk w w.heap.size x
def Res.dat (g : Nat) (l : List Bl) : Res := .nest (g + 1) 0 1 none 0 0 [] 0 (DatF l) (DatI l)
theorem DatI.st (l : List Bl) : St 0 (DatF l) (DatI l) := fun w w' hs hb h x hx =>
  ⟨(h x hx).d32, (Rd.st (B0 := 0) (A := x.A) (F := DatF l) fun ad e => Or.inr ⟨x, hx, ad, e, rfl⟩) w w' hs hb (h x hx).rd, (h x hx).nc, (h x hx).cm⟩
theorem dat_of {w : World} {g : Nat} {l : List Bl} (h : ∀ x ∈ l, BlOk w w.heap.size x ∧ ∀ ad, x.A = some ad → g < ad.block ∧ ad.block < w.heap.size) : (Res.dat g l).ok w :=
  Nest.of (Own.nil _ _ _ _) (fun x hx => (h x hx).1) (DatI.st l) (fun b hb => by
    obtain ⟨x, hx, ad, e, rfl⟩ := hb
    have := (h x hx).2 ad e
    exact ⟨this.1, this.2, fun h => by cases h⟩)
theorem dat_nil {w : World} {g : Nat} : (Res.dat g []).ok w := dat_of fun x hx => by cases hx
theorem dat_get {w : World} {g : Nat} {l : List Bl} (h : (Res.dat g l).ok w) : ∀ x ∈ l, BlOk w w.heap.size x := (h : Nest _ _ _ _ _ _ _ _ _ _ _).inn
theorem dat_at {w : World} {g : Nat} {l : List Bl} (h : (Res.dat g l).ok w) : ∀ x ∈ l, ∀ ad, x.A = some ad → g < ad.block ∧ ad.block < w.heap.size := fun x hx ad e =>
  (h : Nest _ _ _ _ _ _ _ _ _ _ _).fr ad.block ⟨x, hx, ad, e, rfl⟩
theorem dat_snoc {w : World} {g : Nat} {l : List Bl} {x : Bl} (h : (Res.dat g l).ok w) (hx : BlOk w w.heap.size x) (ha : ∀ ad, x.A = some ad → g < ad.block ∧ ad.block < w.heap.size) : (Res.dat g (l ++ [x])).ok w :=
  dat_of fun y hy => by
    rcases List.mem_append.1 hy with h1 | h1
    · exact ⟨dat_get h y h1, dat_at h y h1⟩
    · rw [List.mem_singleton.1 h1]; exact ⟨hx, ha⟩
theorem dat_perm {w : World} {g : Nat} {l l' : List Bl} (h : (Res.dat g l).ok w) (hp : ∀ x ∈ l', x ∈ l) : (Res.dat g l').ok w :=
  dat_of fun y hy => ⟨dat_get h y (hp y hy), dat_at h y (hp y hy)⟩
theorem dat_apart {g : Nat} {l : List Bl} : (Res.dat g l).apart (some g) := fun b hb => by
  injection hb with hb
  subst hb
  exact ⟨Nat.zero_le _, Or.inl (Nat.lt_succ_self _)⟩
theorem dat_far {w : World} {g b : Nat} {l : List Bl} (h : (Res.dat g l).ok w) (hb : w.heap.size ≤ b) : (Res.dat g l).apart (some b) := fun q hq => by
  injection hq with hq
  subst hq
  refine ⟨Nat.zero_le _, Or.inr ⟨(fun e => by cases e), fun hF => ?_⟩⟩
  obtain ⟨y, hy, ad', e, e2⟩ := hF
  have := (dat_at h y hy ad' e).2
  omega
/-- what a blob says, wherever it lies -/
def pr (x : Bl) : List UInt8 × List UInt8 := (x.d, x.b)
theorem blC_flat (l : List Bl) (h : ∀ x ∈ l, x.d.length = 32) : (l.map blC).flatten.length = l.length * 33 :=
  (flat_len (by intro e he; obtain ⟨x, hx, rfl⟩ := List.mem_map.1 he; exact blC_len (h x hx))).trans (by rw [List.length_map])
/-- a slice of blobs from the cells of its block -/
theorem Blobs.of {w : World} {g n : Nat} {t : TypeId} {l : List Bl} {cs : List Value} (hc : Cells w g t cs) (hd : (Res.dat g l).ok w) (hl : l.length = n) (hcs : cs.take (n * 33) = (l.map blC).flatten) : Blobs w w.heap.size (some ⟨g, 0, none⟩) n l := by
  have h33 : ∀ x ∈ l, x.d.length = 32 := fun x hx => (dat_get hd x hx).d32
  refine ⟨⟨⟨?_, fun _ => ⟨_, rfl, hc.lt, fun j u hu => ?_⟩⟩, fun e he => ?_, by rw [List.length_map]; exact hl⟩, dat_get hd, hl⟩
  · rw [blC_flat l h33, hl]
  · rw [add_lit, Nat.zero_add]
    rw [← hcs, List.getElem?_take] at hu
    split at hu
    · have h2 := (List.getElem?_eq_some_iff.1 hu).1
      rw [Cells.cell hc h2]
      rw [List.getElem?_eq_getElem h2] at hu
      exact hu
    · cases hu
  · obtain ⟨x, hx, rfl⟩ := List.mem_map.1 he
    exact blC_len (h33 x hx)
theorem fill_bl (d : List UInt8) (A : Option Addr) (n c : Nat) (b : List UInt8) (hd : d.length = 32) : Instr.fill (#[(0, 32), (32, 1)][·]?) blZ.toArray [(0, .agg (d.map bv).toArray), (1, .slice A n c)] = some (blC ⟨d, A, n, c, b⟩).toArray := by
  refine (fill_step (off := 0) (size := 32) (es := d.map bv) (pre := []) (old := List.replicate 32 (Value.int .u8 0)) (post := [.slice none 0 0]) rfl rfl rfl rfl rfl (by simp [hd])).trans ?_
  refine (fill_step (off := 32) (size := 1) (es := [.slice A n c]) (pre := d.map bv) (old := [.slice none 0 0]) (post := []) rfl (by simp) (by simp [hd]) rfl rfl rfl).trans ?_
  simp [Instr.fill, blC]
end Go.Adm
namespace Go.Proofs.YtkcmaembpfakdaaDoor
open Go Go.RowKit Go.Adm

set_option maxHeartbeats 3200000 in
theorem duplicate_any (w : World) (B : Nat) (x : Bl) (hx : BlOk w B x) (hn : x.n ≤ 140737488355000) (hB : B ≤ w.heap.size) :
    Calls Tryd.prog 23 #[.agg (blC x).toArray] w fun e w' => ∃ gd, w.heap.size ≤ gd ∧ gd < w'.heap.size ∧ e = .returned (.agg (blC ⟨x.d, some ⟨gd, 0, none⟩, x.n, x.n, x.b⟩).toArray) ∧ Cells w' gd 5 (x.b.map bv) ∧ Below w.heap.size w w' := by
  have hR : All w [.low (.rd B 1 x.A x.n (x.b.map bv)), .kept w w.heap.size] := ⟨⟨hx.rd, hB⟩, ⟨Below.refl _ _, Nat.le_refl _⟩, trivial⟩
  have HD := Lib.hid hx.d32
  have HL := Lib.hid hx.len
  have HFP := Lib.hid (fill_bl x.d (some ⟨w.heap.size + 1 + 1, 0, none⟩) x.n x.n x.b hx.d32)
  have hzr := zero_bl
  clear hx
  go_enter Tryd.func23, Tryd.ntmps23
  go_upto_region 1 with (fail)
  refine wp_gen ((hR.new (l := blC x) _ 56 rfl rfl).new (l := blZ) (g := w.heap.size + 1) _ 56 (by simp) rfl) ?_
  intro W1 hW1
  have hlast : W1.cell? ⟨w.heap.size, 32, none⟩ = some (.slice x.A x.n x.c) := by
    have h1 := bl_last HD.out
    have h2 := (List.getElem?_eq_some_iff.1 h1).1
    rw [Cells.cell (hW1.at_ 1 rfl : Cells W1 w.heap.size _ _) h2]
    rw [List.getElem?_eq_getElem h2] at h1
    exact h1
  have hsz : w.heap.size + 1 < W1.heap.size := Cells.lt (hW1.at_ 0 rfl)
  clear hR
  obtain ⟨gd, hgd⟩ : ∃ gd, gd = W1.heap.size := ⟨_, rfl⟩
  have HFP := Lib.hid (fill_bl x.d (some ⟨gd, 0, none⟩) x.n x.n x.b HD.out)
  go_upto_region 2 with (refine wl_make el_b8 hW1 rfl (.tmp 6) (.tmp 6) rfl x.n x.n rfl rfl (Nat.le_refl _) (by omega) ?_; intro W2 hW2 hs2)
  simp only [← hgd] at hW2
  simp only [← hgd]
  have hlast2 : W2.cell? ⟨w.heap.size, 32, none⟩ = some (.slice x.A x.n x.c) := by
    have h1 := bl_last HD.out
    have h2 := (List.getElem?_eq_some_iff.1 h1).1
    rw [Cells.cell (hW2.at_ 2 rfl : Cells W2 w.heap.size _ _) h2]
    rw [List.getElem?_eq_getElem h2] at h1
    exact h1
  have hlen : (madeCells (Value.int .u8 0).cells (x.n * 1)).toList.length = x.n := by rw [madeCells_len, Nat.mul_one]
  have hgw : w.heap.size + 1 < gd := by omega
  have hgB : B ≤ w.heap.size := hB
  have hgs : gd < W2.heap.size := by omega
  clear hlast hgd hW1 hs2
  go_upto_region 3 with (refine wl_copy_at hW2 0 rfl (.tmp 8) (.tmp 10) 22 22 rfl 5 Tryd.underlying22 (by kernel_rfl) gd 0 x.n x.n 5 _ (x.b.map bv) rfl rfl B x.A x.n x.c x.n rfl (hW2.at_ 3 rfl : Rd W2 B 1 x.A x.n (x.b.map bv) ∧ _).1 (by simp) (by rw [hlen]; omega) (bv_one _) (by simp [Apart, Res.apart, Low.rd] <;> omega) ?_; intro W3 hW3 hs3)
  have hb3 : (madeCells (Value.int .u8 0).cells (x.n * 1)).toList.take 0 ++ ((x.b.map bv).take x.n ++ (madeCells (Value.int .u8 0).cells (x.n * 1)).toList.drop (0 + x.n)) = x.b.map bv := by
    rw [List.take_zero, List.nil_append, List.take_of_length_le (by rw [List.length_map, HL.out]; exact Nat.le_refl _), List.drop_of_length_le (by rw [hlen]; omega), List.append_nil]
  rw [hb3] at hW3
  simp only [List.set_cons_zero] at hW3
  have hs3' : gd < W3.heap.size := by omega
  clear hW2 hlast2 hlen hb3 hs3
  go_wp2_with (first
    | (refine wl_load_any rfl 36 (.tmp 12) rfl ⟨w.heap.size, 0, none⟩ rfl (x.d.map bv) _ (Cells.sub (hW3.at_ 2 rfl) 0 (bl_sub0 x)) Tryd.underlying36 rfl (by rw [List.length_map, HD.out]; kernel_rfl) ?_)
    | (refine wl_build rfl 56 [(0, .tmp 13), (1, .tmp 14)] rfl _ _ #[(0, 32), (32, 1)] (blC ⟨x.d, some ⟨gd, 0, none⟩, x.n, x.n, x.b⟩).toArray zero_bl Tryd.underlying56 (fun w => by kernel_rfl) HFP.out ?_)
    | (refine wl_store_at hW3 1 rfl 56 (.tmp 2) (.tmp 15) rfl (w.heap.size + 1) _ _ (blC ⟨x.d, some ⟨gd, 0, none⟩, x.n, x.n, x.b⟩) rfl rfl rfl (by rw [blC_len (x := ⟨x.d, some ⟨gd, 0, none⟩, x.n, x.n, x.b⟩) HD.out]; rfl) (by rw [blC_len (x := ⟨x.d, some ⟨gd, 0, none⟩, x.n, x.n, x.b⟩) HD.out]; kernel_rfl) (blC_one _) (by simp [Apart, Res.apart, Low.rd] <;> omega) ?_; intro W4 hW4 hs4))
  refine bodyPost_ret (v := .agg (blC ⟨x.d, some ⟨gd, 0, none⟩, x.n, x.n, x.b⟩).toArray) ?_ rfl ⟨gd, by omega, by omega, rfl, hW4.at_ 0 rfl, (hW4.at_ 4 rfl : _ ∧ _).1⟩
  exact results_cell_row rfl _ _ (w.heap.size + 1) 56 (blC ⟨x.d, some ⟨gd, 0, none⟩, x.n, x.n, x.b⟩).toArray (0, 0) _ rfl (hW4.at_ 1 rfl) Tryd.underlying56 rfl (by rw [List.size_toArray, blC_len (x := ⟨x.d, some ⟨gd, 0, none⟩, x.n, x.n, x.b⟩) HD.out]; kernel_rfl)
end Go.Proofs.YtkcmaembpfakdaaDoor

/- Copies of blobs and of stores. Copies of a store. slices.Insert of one blob into a store that has room for it. -/
import Derived.Test.YtkcmaembpfakdaaGreatDoorSto6
import Derived.Laws.CopyRow
import Derived.Laws.MakeOwn
import Derived.Lib.Overlaps
import Derived.StillTailTactics
set_option linter.unusedSimpArgs false
set_option linter.unusedVariables false
set_option maxRecDepth 100000
namespace Go.Adm
open Go Go.RowKit
section
variable {P : Program} {w : World} {rs : List Res}
/-- make, at the operation -/
theorem wl_make {ops : Array Oper} {rest : List Oper} {o : Oper} {a : Act} {Q : Exit → Act → World → Prop} {t e : TypeId} {z : Value} {size bytes : Nat} (E : ElemOf P t e z size bytes) (hR : All w rs) (hgd : o.guard = none) (l c : Operand) (ho : o.op = .makeSlice t l c)
    (n m : Nat) (hl : a.eval l = .int .i64 n) (hc : a.eval c = .int .i64 m) (hnm : n ≤ m) (hb : bytes * m ≤ 281474976710656)
    (h : ∀ w', All w' (.cells w.heap.size e (madeCells z.cells (m * size)).toList :: rs) → w'.heap.size = w.heap.size + 1 → wpList P ops Q rest (a.put o.dst (.slice (some ⟨w.heap.size, 0, none⟩) n m)) w') : wpList P ops Q (o :: rest) a w := by
  obtain ⟨i, hi, hz, hsize, hby⟩ := E.hi
  have hm : m ≤ 281474976710656 := Nat.le_trans (Nat.le_mul_of_pos_left m E.hb) hb
  have hr := run_make (P := P) w t e i z E.ht hi hz .i64 .i64 n m (by omega) (by omega) (by rw [hby]; rw [← Int.natCast_mul]; omega) (by omega)
  rw [hsize, Int.toNat_natCast, Int.toNat_natCast] at hr
  refine wpList_plain hgd fun K hK' => ?_
  unfold Oper.wp
  simp only [execOp, ho, hl, hc, Sem.run_bind, hr, Result.andThen_ok, Sem.run_pure]
  exact hK' _ _ (h _ (hR.new _ e rfl rfl) (by simp))
/-- append within the capacity onto a block that is known whole -/
theorem wl_app_cells {ops : Array Oper} {rest : List Oper} {o : Oper} {a : Act} {Q : Exit → Act → World → Prop} {t e : TypeId} {z : Value} {size bytes : Nat} (E : ElemOf P t e z size bytes) (hR : All w rs) (j : Nat) (hgd : o.guard = none) (s x : Operand)
    (ho : o.op = .call { callee := .builtin .append, args := #[s, x], argTypes := #[t, t] })
    (g n c0 : Nat) (cs : List Value) (hC : rs[j]? = some (.cells g e cs)) (hs : a.eval s = .slice (some ⟨g, 0, none⟩) n c0)
    (ad : Addr) (m c : Nat) (news : List Value) (hx : a.eval x = .slice (some ad) m c) (hl : news.length = m * size) (hnews : ∀ q u, news[q]? = some u → w.cell? (ad.add q) = some u) (h1 : ∀ u ∈ news, u.oneCell' = true)
    (hroom : n + m ≤ c0) (hfit : n * size + news.length ≤ cs.length) (hap : Apart (some g) (rs.eraseIdx j))
    (h : ∀ w', All w' (rs.set j (.cells g e (cs.take (n * size) ++ news ++ cs.drop (n * size + news.length)))) → w'.heap.size = w.heap.size → wpList P ops Q rest (a.put o.dst (.slice (some ⟨g, 0, none⟩) (n + m) c0)) w') : wpList P ops Q (o :: rest) a w := by
  obtain ⟨i, hi, hz, hsize, hby⟩ := E.hi
  have hcell : Cells w g e cs := hR.at_ j hC
  have hr := run_append_room (P := P) w t o.type e i E.ht hi g n c0 cs.toArray hcell ad m c news (by rw [hsize]; exact hl) hnews h1 hroom (by rw [hsize]; simpa using hfit)
  rw [hsize] at hr
  refine wpList_plain hgd fun K hK' => ?_
  unfold Oper.wp
  simp only [execOp, ho, resolve, invoke, builtin, Sem.run_bind, Sem.run_pure, Result.andThen_ok, List.map_toArray, List.map_cons, List.map_nil, hs, hx, hr]
  refine hK' _ _ (h _ (All.upd (grown_setRow w g _) j _ hR ?_ hap) (by simp [World.setRow]))
  show _ = _
  simpa using setRow_heap w g _ _ e _ hcell
/-- copy of wide elements within a block that is known whole -/
theorem wl_copy_wide {ops : Array Oper} {rest : List Oper} {o : Oper} {a : Act} {Q : Exit → Act → World → Prop} {t e : TypeId} {z : Value} {size bytes : Nat} (E : ElemOf P t e z size bytes) (hR : All w rs) (j : Nat) (hgd : o.guard = none) (d s : Operand)
    (ho : o.op = .call { callee := .builtin .copy, args := #[d, s], argTypes := #[t, t] })
    (g off dLen dCap : Nat) (cs : List Value) (hC : rs[j]? = some (.cells g e cs)) (hd : a.eval d = .slice (some ⟨g, off, none⟩) dLen dCap)
    (ad : Addr) (sLen sCap k : Nat) (news : List Value) (hs : a.eval s = .slice (some ad) sLen sCap) (hk : k = Nat.min sLen dLen) (hl : news.length = k * size) (hnews : ∀ q u, news[q]? = some u → w.cell? (ad.add q) = some u) (h1 : ∀ u ∈ news, u.oneCell' = true)
    (hfit : off + news.length ≤ cs.length) (hap : Apart (some g) (rs.eraseIdx j))
    (h : ∀ w', All w' (rs.set j (.cells g e (cs.take off ++ news ++ cs.drop (off + news.length)))) → w'.heap.size = w.heap.size → wpList P ops Q rest (a.put o.dst (goInt k)) w') : wpList P ops Q (o :: rest) a w := by
  obtain ⟨i, hi, hz, hsize, hby⟩ := E.hi
  have hcell : Cells w g e cs := hR.at_ j hC
  have hf := run_firstCells_some (P := P) w i.size k ad sLen sCap news (by rw [hsize]; exact hl) hnews
  have hst := run_storeCells_at P g off e news 0 cs.toArray w hcell (by simpa using hfit) h1
  have hr : (Builtin.copy_ #[t, t] o.type #[.slice (some ⟨g, off, none⟩) dLen dCap, .slice (some ad) sLen sCap]).run P w = .ok (goInt k) (w.setRow g (cs.take off ++ news ++ cs.drop (off + news.length)).toArray) := by
    simp [Builtin.copy_, run_underlying E.ht, Builtin.lenOf, sizeOf, typeInfo, hi, ← hk, hf, hst]
  refine wpList_plain hgd fun K hK' => ?_
  unfold Oper.wp
  simp only [execOp, ho, resolve, invoke, builtin, Sem.run_bind, Sem.run_pure, Result.andThen_ok, List.map_toArray, List.map_cons, List.map_nil, hd, hs, hr]
  refine hK' _ _ (h _ (All.upd (grown_setRow w g _) j _ hR ?_ hap) (by simp [World.setRow]))
  show _ = _
  simpa using setRow_heap w g _ _ e _ hcell
end
theorem madeCells_len (z : Array Value) (n : Nat) : (madeCells z n).toList.length = n := by rw [Array.length_toList]; exact size_madeCells z n
/-- the data of blobs, in blocks above g -/
def DatF (l : List Bl) : Nat → Prop := fun b => ∃ x ∈ l, ∃ ad, x.A = some ad ∧ ad.block = b
def DatI (l : List Bl) (w : World) : Prop := ∀ x ∈ l, BlOk w w.heap.size x
def Res.dat (g : Nat) (l : List Bl) : Res := .nest (g + 1) 0 1 none 0 0 [] 0 (DatF l) (DatI l)
theorem DatI.st (l : List Bl) : St 0 (DatF l) (DatI l) := fun w w' hs hb h x hx =>
  ⟨(h x hx).d32, (Rd.st (B0 := 0) (A := x.A) (F := DatF l) fun ad e => Or.inr ⟨x, hx, ad, e, rfl⟩) w w' hs hb (h x hx).rd, (h x hx).nc, (h x hx).cm⟩
theorem dat_of {w : World} {g : Nat} {l : List Bl} (h : ∀ x ∈ l, BlOk w w.heap.size x ∧ ∀ ad, x.A = some ad → g < ad.block ∧ ad.block < w.heap.size) : (Res.dat g l).ok w :=
  Nest.of (Own.nil _ _ _ _) (fun x hx => (h x hx).1) (DatI.st l) (fun b hb => by
    obtain ⟨x, hx, ad, e, rfl⟩ := hb
    have := (h x hx).2 ad e
    exact ⟨this.1, this.2, fun h => by cases h⟩)
theorem dat_nil {w : World} {g : Nat} : (Res.dat g []).ok w := dat_of fun x hx => by cases hx
theorem dat_get {w : World} {g : Nat} {l : List Bl} (h : (Res.dat g l).ok w) : ∀ x ∈ l, BlOk w w.heap.size x := (h : Nest _ _ _ _ _ _ _ _ _ _ _).inn
theorem dat_at {w : World} {g : Nat} {l : List Bl} (h : (Res.dat g l).ok w) : ∀ x ∈ l, ∀ ad, x.A = some ad → g < ad.block ∧ ad.block < w.heap.size := fun x hx ad e =>
  (h : Nest _ _ _ _ _ _ _ _ _ _ _).fr ad.block ⟨x, hx, ad, e, rfl⟩
theorem dat_snoc {w : World} {g : Nat} {l : List Bl} {x : Bl} (h : (Res.dat g l).ok w) (hx : BlOk w w.heap.size x) (ha : ∀ ad, x.A = some ad → g < ad.block ∧ ad.block < w.heap.size) : (Res.dat g (l ++ [x])).ok w :=
  dat_of fun y hy => by
    rcases List.mem_append.1 hy with h1 | h1
    · exact ⟨dat_get h y h1, dat_at h y h1⟩
    · rw [List.mem_singleton.1 h1]; exact ⟨hx, ha⟩
theorem dat_perm {w : World} {g : Nat} {l l' : List Bl} (h : (Res.dat g l).ok w) (hp : ∀ x ∈ l', x ∈ l) : (Res.dat g l').ok w :=
  dat_of fun y hy => ⟨dat_get h y (hp y hy), dat_at h y (hp y hy)⟩
theorem dat_apart {g : Nat} {l : List Bl} : (Res.dat g l).apart (some g) := fun b hb => by
  injection hb with hb
  subst hb
  exact ⟨Nat.zero_le _, Or.inl (Nat.lt_succ_self _)⟩
theorem dat_far {w : World} {g b : Nat} {l : List Bl} (h : (Res.dat g l).ok w) (hb : w.heap.size ≤ b) : (Res.dat g l).apart (some b) := fun q hq => by
  injection hq with hq
  subst hq
  refine ⟨Nat.zero_le _, Or.inr ⟨(fun e => by cases e), fun hF => ?_⟩⟩
  obtain ⟨y, hy, ad', e, e2⟩ := hF
  have := (dat_at h y hy ad' e).2
  omega
/-- what a blob says, wherever it lies -/
def pr (x : Bl) : List UInt8 × List UInt8 := (x.d, x.b)
theorem blC_flat (l : List Bl) (h : ∀ x ∈ l, x.d.length = 32) : (l.map blC).flatten.length = l.length * 33 :=
  (flat_len (by intro e he; obtain ⟨x, hx, rfl⟩ := List.mem_map.1 he; exact blC_len (h x hx))).trans (by rw [List.length_map])
/-- a slice of blobs from the cells of its block -/
theorem Blobs.of {w : World} {g n : Nat} {t : TypeId} {l : List Bl} {cs : List Value} (hc : Cells w g t cs) (hd : (Res.dat g l).ok w) (hl : l.length = n) (hcs : cs.take (n * 33) = (l.map blC).flatten) : Blobs w w.heap.size (some ⟨g, 0, none⟩) n l := by
  have h33 : ∀ x ∈ l, x.d.length = 32 := fun x hx => (dat_get hd x hx).d32
  refine ⟨⟨⟨?_, fun _ => ⟨_, rfl, hc.lt, fun j u hu => ?_⟩⟩, fun e he => ?_, by rw [List.length_map]; exact hl⟩, dat_get hd, hl⟩
  · rw [blC_flat l h33, hl]
  · rw [add_lit, Nat.zero_add]
    rw [← hcs, List.getElem?_take] at hu
    split at hu
    · have h2 := (List.getElem?_eq_some_iff.1 hu).1
      rw [Cells.cell hc h2]
      rw [List.getElem?_eq_getElem h2] at hu
      exact hu
    · cases hu
  · obtain ⟨x, hx, rfl⟩ := List.mem_map.1 he
    exact blC_len (h33 x hx)
theorem fill_bl (d : List UInt8) (A : Option Addr) (n c : Nat) (b : List UInt8) (hd : d.length = 32) : Instr.fill (#[(0, 32), (32, 1)][·]?) blZ.toArray [(0, .agg (d.map bv).toArray), (1, .slice A n c)] = some (blC ⟨d, A, n, c, b⟩).toArray := by
  refine (fill_step (off := 0) (size := 32) (es := d.map bv) (pre := []) (old := List.replicate 32 (Value.int .u8 0)) (post := [.slice none 0 0]) rfl rfl rfl rfl rfl (by simp [hd])).trans ?_
  refine (fill_step (off := 32) (size := 1) (es := [.slice A n c]) (pre := d.map bv) (old := [.slice none 0 0]) (post := []) rfl (by simp) (by simp [hd]) rfl rfl rfl).trans ?_
  simp [Instr.fill, blC]
end Go.Adm
namespace Go.Proofs.YtkcmaembpfakdaaGreatDoor
open Go Go.RowKit Go.Adm

set_option maxHeartbeats 3200000 in
theorem duplicate_any (w : World) (B : Nat) (x : Bl) (hx : BlOk w B x) (hn : x.n ≤ 140737488355000) (hB : B ≤ w.heap.size) :
    Calls Tryz.prog 40 #[.agg (blC x).toArray] w fun e w' => ∃ gd, w.heap.size ≤ gd ∧ gd < w'.heap.size ∧ e = .returned (.agg (blC ⟨x.d, some ⟨gd, 0, none⟩, x.n, x.n, x.b⟩).toArray) ∧ Cells w' gd 5 (x.b.map bv) ∧ Below w.heap.size w w' := by
  have hR : All w [.low (.rd B 1 x.A x.n (x.b.map bv)), .kept w w.heap.size] := ⟨⟨hx.rd, hB⟩, ⟨Below.refl _ _, Nat.le_refl _⟩, trivial⟩
  have HD := Lib.hid hx.d32
  have HL := Lib.hid hx.len
  have HFP := Lib.hid (fill_bl x.d (some ⟨w.heap.size + 1 + 1, 0, none⟩) x.n x.n x.b hx.d32)
  have hzr := zero_bl
  clear hx
  go_enter Tryz.func40, Tryz.ntmps40
  go_upto_region 1 with (fail)
  refine wp_gen ((hR.new (l := blC x) _ 51 rfl rfl).new (l := blZ) (g := w.heap.size + 1) _ 51 (by simp) rfl) ?_
  intro W1 hW1
  have hlast : W1.cell? ⟨w.heap.size, 32, none⟩ = some (.slice x.A x.n x.c) := by
    have h1 := bl_last HD.out
    have h2 := (List.getElem?_eq_some_iff.1 h1).1
    rw [Cells.cell (hW1.at_ 1 rfl : Cells W1 w.heap.size _ _) h2]
    rw [List.getElem?_eq_getElem h2] at h1
    exact h1
  have hsz : w.heap.size + 1 < W1.heap.size := Cells.lt (hW1.at_ 0 rfl)
  clear hR
  obtain ⟨gd, hgd⟩ : ∃ gd, gd = W1.heap.size := ⟨_, rfl⟩
  have HFP := Lib.hid (fill_bl x.d (some ⟨gd, 0, none⟩) x.n x.n x.b HD.out)
  go_upto_region 2 with (refine wl_make el_b8 hW1 rfl (.tmp 6) (.tmp 6) rfl x.n x.n rfl rfl (Nat.le_refl _) (by omega) ?_; intro W2 hW2 hs2)
  simp only [← hgd] at hW2
  simp only [← hgd]
  have hlast2 : W2.cell? ⟨w.heap.size, 32, none⟩ = some (.slice x.A x.n x.c) := by
    have h1 := bl_last HD.out
    have h2 := (List.getElem?_eq_some_iff.1 h1).1
    rw [Cells.cell (hW2.at_ 2 rfl : Cells W2 w.heap.size _ _) h2]
    rw [List.getElem?_eq_getElem h2] at h1
    exact h1
  have hlen : (madeCells (Value.int .u8 0).cells (x.n * 1)).toList.length = x.n := by rw [madeCells_len, Nat.mul_one]
  have hgw : w.heap.size + 1 < gd := by omega
  have hgB : B ≤ w.heap.size := hB
  have hgs : gd < W2.heap.size := by omega
  clear hlast hgd hW1 hs2
  go_upto_region 3 with (refine wl_copy_at hW2 0 rfl (.tmp 8) (.tmp 10) 36 36 rfl 5 Tryz.underlying36 (by kernel_rfl) gd 0 x.n x.n 5 _ (x.b.map bv) rfl rfl B x.A x.n x.c x.n rfl (hW2.at_ 3 rfl : Rd W2 B 1 x.A x.n (x.b.map bv) ∧ _).1 (by simp) (by rw [hlen]; omega) (bv_one _) (by simp [Apart, Res.apart, Low.rd] <;> omega) ?_; intro W3 hW3 hs3)
  have hb3 : (madeCells (Value.int .u8 0).cells (x.n * 1)).toList.take 0 ++ ((x.b.map bv).take x.n ++ (madeCells (Value.int .u8 0).cells (x.n * 1)).toList.drop (0 + x.n)) = x.b.map bv := by
    rw [List.take_zero, List.nil_append, List.take_of_length_le (by rw [List.length_map, HL.out]; exact Nat.le_refl _), List.drop_of_length_le (by rw [hlen]; omega), List.append_nil]
  rw [hb3] at hW3
  simp only [List.set_cons_zero] at hW3
  have hs3' : gd < W3.heap.size := by omega
  clear hW2 hlast2 hlen hb3 hs3
  go_wp2_with (first
    | (refine wl_load_any rfl 32 (.tmp 12) rfl ⟨w.heap.size, 0, none⟩ rfl (x.d.map bv) _ (Cells.sub (hW3.at_ 2 rfl) 0 (bl_sub0 x)) Tryz.underlying32 rfl (by rw [List.length_map, HD.out]; kernel_rfl) ?_)
    | (refine wl_build rfl 51 [(0, .tmp 13), (1, .tmp 14)] rfl _ _ #[(0, 32), (32, 1)] (blC ⟨x.d, some ⟨gd, 0, none⟩, x.n, x.n, x.b⟩).toArray zero_bl Tryz.underlying51 (fun w => by kernel_rfl) HFP.out ?_)
    | (refine wl_store_at hW3 1 rfl 51 (.tmp 2) (.tmp 15) rfl (w.heap.size + 1) _ _ (blC ⟨x.d, some ⟨gd, 0, none⟩, x.n, x.n, x.b⟩) rfl rfl rfl (by rw [blC_len (x := ⟨x.d, some ⟨gd, 0, none⟩, x.n, x.n, x.b⟩) HD.out]; rfl) (by rw [blC_len (x := ⟨x.d, some ⟨gd, 0, none⟩, x.n, x.n, x.b⟩) HD.out]; kernel_rfl) (blC_one _) (by simp [Apart, Res.apart, Low.rd] <;> omega) ?_; intro W4 hW4 hs4))
  refine bodyPost_ret (v := .agg (blC ⟨x.d, some ⟨gd, 0, none⟩, x.n, x.n, x.b⟩).toArray) ?_ rfl ⟨gd, by omega, by omega, rfl, hW4.at_ 0 rfl, (hW4.at_ 4 rfl : _ ∧ _).1⟩
  exact results_cell_row rfl _ _ (w.heap.size + 1) 51 (blC ⟨x.d, some ⟨gd, 0, none⟩, x.n, x.n, x.b⟩).toArray (0, 0) _ rfl (hW4.at_ 1 rfl) Tryz.underlying51 rfl (by rw [List.size_toArray, blC_len (x := ⟨x.d, some ⟨gd, 0, none⟩, x.n, x.n, x.b⟩) HD.out]; kernel_rfl)
end Go.Proofs.YtkcmaembpfakdaaGreatDoor
set_option linter.unusedSimpArgs false
set_option linter.unusedVariables false
set_option maxRecDepth 100000
namespace Go.Adm
open Go Go.RowKit
theorem cells_rd0 {w : World} {g n : Nat} {t : TypeId} {cs : List Value} (h : Cells w g t cs) (hl : cs.length = n) : Rd w w.heap.size 1 (some ⟨g, 0, none⟩) n cs := by
  have h1 := Cells.rd h (o := 0) (n := n) (by omega)
  rw [List.drop_zero, List.take_of_length_le (by omega)] at h1
  exact h1.mono h.lt
theorem cells_snoc {cs : List Value} {k : Nat} {l : List Bl} {x : Bl} (h : cs.take (k * 33) = (l.map blC).flatten) (hx : (blC x).length = 33) (hk : k * 33 + 33 ≤ cs.length) :
    (cs.take (k * 33) ++ blC x ++ cs.drop (k * 33 + (blC x).length)).take ((k + 1) * 33) = ((l ++ [x]).map blC).flatten ∧ (cs.take (k * 33) ++ blC x ++ cs.drop (k * 33 + (blC x).length)).length = cs.length := by
  refine ⟨?_, ?_⟩
  · rw [List.take_left' (by rw [List.length_append, List.length_take, hx]; omega), h]
    simp
  · rw [List.length_append, List.length_append, List.length_take, List.length_drop, hx]; omega
end Go.Adm
namespace Go.Proofs.YtkcmaembpfakdaaGreatDoor
open Go Go.RowKit Go.Adm

set_option maxHeartbeats 3200000 in
theorem copies_any (w : World) (B : Nat) (A : Option Addr) (n c : Nat) (l : List Bl) (hl : Blobs w B A n l) (hn2 : n ≤ 1000000) (hB : B ≤ w.heap.size) (hbig : ∀ x ∈ l, x.n ≤ 140737488355000) :
    Calls Tryz.prog 42 #[.slice A n c] w fun e w' => ∃ l' cs, e = .returned (.slice (some ⟨w.heap.size, 0, none⟩) n (n + 1)) ∧ l'.map pr = l.map pr ∧ cs.take (n * 33) = (l'.map blC).flatten ∧ cs.length = (n + 1) * 33 ∧
      All w' [.cells w.heap.size 51 cs, .dat w.heap.size l', .kept w w.heap.size] := by
  have hR : All w [.low (.blobs B A n l), .kept w w.heap.size] := ⟨⟨hl, hB⟩, ⟨Below.refl _ _, Nat.le_refl _⟩, trivial⟩
  have HN := Lib.hid hl.len
  have HBIG := Lib.hid hbig
  have hzr := zero_bl
  clear hl hbig
  have w1 : IntKind.i64.wrap ((n : Int) + 1) = ((n + 1 : Nat) : Int) := by rw [IntWalk.i64_in _ (by omega)]; omega
  go_enter Tryz.func42, Tryz.ntmps42
  go_upto_region 2 with (refine wl_make el_bl hR rfl (.const (.int .i64 0)) (.tmp 8) rfl 0 (n + 1) rfl rfl (by omega) (by omega) ?_; intro W1 hW1 hs1)
  have hlen : (madeCells (Value.agg blZ.toArray).cells ((n + 1) * 33)).toList.length = (n + 1) * 33 := madeCells_len _ _
  have hW2 : All W1 [.cells w.heap.size 51 (madeCells (Value.agg blZ.toArray).cells ((n + 1) * 33)).toList, .dat w.heap.size [], .low (.blobs B A n l), .kept w w.heap.size] := ⟨hW1.at_ 0 rfl, dat_nil, hW1.at_ 1 rfl, hW1.at_ 2 rfl, trivial⟩
  generalize (madeCells (Value.agg blZ.toArray).cells ((n + 1) * 33)).toList = cs0 at *
  clear hR hW1 hs1 w1
  go_wp2
  go_loopw [3, 12] (fun o i wr => ∃ (k : Nat) (l' : List Bl) (cs : List Value), k ≤ n ∧ i = .int .i64 k ∧ o = .slice (some ⟨w.heap.size, 0, none⟩) k (n + 1) ∧ Hid (l'.map pr = (l.take k).map pr) ∧ Hid (cs.take (k * 33) = (l'.map blC).flatten) ∧ Hid (cs.length = (n + 1) * 33) ∧ All wr [.cells w.heap.size 51 cs, .dat w.heap.size l', .low (.blobs B A n l), .kept w w.heap.size]) (fun _ i _ => n - (intOf i).toNat)
  case atStart => exact ⟨0, [], cs0, by omega, rfl, rfl, Lib.hid (by simp), Lib.hid (by simp), Lib.hid hlen, hW2⟩
  case round =>
    clear hW2 hlen
    obtain ⟨k, l', cs, hk, rfl, rfl, HP, HF, HL, hI⟩ := hrel
    by_cases hlt : k < n
    · have hkl : k < l.length := by rw [HN.out]; exact hlt
      have hbl := (hI.at_ 2 rfl : Blobs wr B A n l ∧ B ≤ wr.heap.size)
      obtain ⟨ad, rfl, hadB, hc⟩ := Els.elem hbl.1.els hkl
      have HC := Lib.hid hc
      have hx := Lib.hid (hbl.1.each _ (List.getElem_mem hkl)).d32
      have HBL : Hid (∀ W, All W [.low (.blobs B (some ad) n l)] → BlOk W B l[k]) := Lib.hid (fun W hW => (hW.at_ 0 rfl : Blobs W B (some ad) n l ∧ _).1.each _ (List.getElem_mem hkl))
      have HXL : Hid (l[k].b.length = l[k].n) := Lib.hid (hbl.1.each _ (List.getElem_mem hkl)).len
      have hxn : Hid (l[k].n ≤ 140737488355000) := Lib.hid (HBIG.out _ (List.getElem_mem hkl))
      have HPS : Hid (∀ x', pr x' = pr l[k] → (l' ++ [x']).map pr = (l.take (k + 1)).map pr) := Lib.hid (fun x' hx' => by rw [List.map_append, HP.out, List.take_succ_eq_append_getElem hkl, List.map_append]; simp [hx'])
      have hBw : B ≤ wr.heap.size := hbl.2
      clear hc hbl
      generalize l[k] = x at *
      have d1 : decide ((k : Int) < (n : Int)) = true := by simp; omega
      have hsw : w.heap.size < wr.heap.size := Cells.lt (hI.at_ 0 rfl)
      obtain ⟨gx, hgx⟩ : ∃ gx, gx = wr.heap.size := ⟨_, rfl⟩
      go_upto_region 5 with (first
        | (refine wl_load_any rfl 51 (.tmp 14) rfl (ad.add (k * 33)) rfl (blC x) _ HC.out Tryz.underlying51 rfl (by rw [blC_len hx.out]; kernel_rfl) ?_)
        | (refine wl_store_at (hI.new (l := blZ) _ 51 hgx rfl) 0 rfl 51 (.tmp 5) (.tmp 15) rfl gx _ _ (blC x) rfl (by rw [hgx]; rfl) rfl (by rw [blC_len hx.out]; rfl) (by rw [blC_len hx.out]; kernel_rfl) (blC_one x) ⟨by simp [Res.apart]; omega, dat_far (hI.at_ 1 rfl) (by omega), by simp [Res.apart, Low.blobs]; omega, by simp [Res.apart]; omega, trivial⟩ ?_; intro W2 hW2 hs2; simp only [List.set_cons_zero] at hW2))
      simp only [← hgx]
      have hs3 : gx < W2.heap.size := Cells.lt (hW2.at_ 0 rfl)
      have hdu := duplicate_any W2 B x (HBL.out W2 ⟨hW2.at_ 3 rfl, trivial⟩) hxn.out (hW2.at_ 3 rfl : _ ∧ B ≤ W2.heap.size).2
      have hgxw : w.heap.size < gx := by omega
      clear hs2 hI HC hgx
      go_wp2_with (refine wl_load_any rfl 51 (.tmp 5) rfl ⟨gx, 0, none⟩ rfl (blC x) _ (Cells.sub (hW2.at_ 0 rfl) 0 (fun j u h => by rwa [Nat.zero_add])) Tryz.underlying51 rfl (by rw [blC_len hx.out]; kernel_rfl) ?_)
      refine hdu.mono ?_
      clear hdu
      rintro e w3 ⟨gd, hgd1, hgd2, rfl, hcd, hb3⟩
      have hW3 := All.cons (r := .cells gd 5 (x.b.map bv)) hcd (hW2.call hb3).2
      clear hcd hb3 hW2
      have hxd : (blC ⟨x.d, some ⟨gd, 0, none⟩, x.n, x.n, x.b⟩).length = 33 := blC_len (x := ⟨x.d, some ⟨gd, 0, none⟩, x.n, x.n, x.b⟩) hx.out
      have w2 : k + 1 ≤ n + 1 := by omega
      go_wp2_with (first
        | (refine wl_lit1 el_bl rfl (.tmp 18) rfl (blC ⟨x.d, some ⟨gd, 0, none⟩, x.n, x.n, x.b⟩) rfl hxd (by decide) ?_; refine wl_gen (hW3.new (g := w3.heap.size) _ 51 rfl rfl) ?_; intro W4 hW4)
        | (refine wl_app_cells el_bl hW4 2 rfl (.tmp 16) (.tmp 19) rfl w.heap.size k (n + 1) cs rfl rfl ⟨w3.heap.size, 0, none⟩ 1 1 (blC ⟨x.d, some ⟨gd, 0, none⟩, x.n, x.n, x.b⟩) rfl (by rw [hxd]) (Cells.sub (hW4.at_ 0 rfl) 0 (fun j u h => by simpa [Nat.zero_add] using h)) (blC_one _) w2 (by rw [hxd, HL.out]; omega) ⟨by simp [Res.apart]; omega, by simp [Res.apart]; omega, dat_apart, by simp [Res.apart, Low.blobs] <;> omega, by simp [Res.apart] <;> omega, trivial⟩ ?_; intro W5 hW5 hs5))
      have w3' : IntKind.i64.wrap ((k : Int) + 1) = ((k + 1 : Nat) : Int) := by rw [IntWalk.i64_in _ (by omega)]; omega
      have hsn := cells_snoc (x := ⟨x.d, some ⟨gd, 0, none⟩, x.n, x.n, x.b⟩) HF.out hxd (by rw [HL.out]; omega)
      have hW6 : All W5 [.cells w.heap.size 51 _, .dat w.heap.size (l' ++ [⟨x.d, some ⟨gd, 0, none⟩, x.n, x.n, x.b⟩]), .low (.blobs B (some ad) n l), .kept w w.heap.size] :=
        ⟨hW5.at_ 2 rfl, dat_snoc (hW5.at_ 3 rfl) ⟨hx.out, cells_rd0 (hW5.at_ 1 rfl) (by rw [List.length_map]; exact HXL.out), Nat.le_refl _, by have := hxn.out; simp only [maxLen]; omega⟩ (fun ad e => by injection e with e; subst e; exact ⟨by show w.heap.size < gd; omega, Cells.lt (hW5.at_ 1 rfl)⟩), hW5.at_ 4 rfl, hW5.at_ 5 rfl, trivial⟩
      have HP2 := Lib.hid (HPS.out ⟨x.d, some ⟨gd, 0, none⟩, x.n, x.n, x.b⟩ rfl)
      have HF2 := Lib.hid hsn.1
      have HL2 := Lib.hid (hsn.2.trans HL.out)
      clear hsn hW5 hW4 hW3 HPS HBL
      go_wp2_with fail
      exact ⟨⟨k + 1, _, _, by omega, by go_num, rfl, HP2, HF2, HL2, hW6⟩, by simp [intOf]; omega⟩
    · obtain rfl : k = n := by omega
      have d1 : decide ((k : Int) < (k : Int)) = false := by simp
      have hp := HP.out
      rw [List.take_of_length_le (by rw [HN.out]; exact Nat.le_refl _)] at hp
      have HP2 := Lib.hid hp
      clear hp
      go_wp2_with fail
      go_ret
      exact ⟨l', cs, rfl, HP2.out, HF.out, HL.out, hI.at_ 0 rfl, hI.at_ 1 rfl, hI.at_ 3 rfl, trivial⟩
end Go.Proofs.YtkcmaembpfakdaaGreatDoor
set_option linter.unusedSimpArgs false
set_option linter.unusedVariables false
set_option maxRecDepth 100000
namespace Go.Adm
open Go Go.RowKit
theorem shape_cells {w : World} {g : Nat} {t : TypeId} {cs : List Value} (h : Cells w g t cs) : w.shape? g = some (t, cs.length) := by
  unfold World.shape?
  rw [h]; simp
theorem ins_cells {cs : List Value} {l : List Bl} {x : Bl} {n i : Nat} (hcs : cs.take (n * 33) = (l.map blC).flatten) (hlen : cs.length = (n + 1) * 33) (hl : l.length = n) (h32 : ∀ y ∈ l, y.d.length = 32) (hx : (blC x).length = 33) (hi : i < n) :
    (cs.drop (i * 33)).take ((n - i) * 33) = ((l.drop i).map blC).flatten ∧ ((l.drop i).map blC).flatten.length = (n - i) * 33 ∧
    (cs.take ((i + 1) * 33) ++ ((l.drop i).map blC).flatten ++ cs.drop ((i + 1) * 33 + ((l.drop i).map blC).flatten.length)).length = (n + 1) * 33 ∧
    ((cs.take ((i + 1) * 33) ++ ((l.drop i).map blC).flatten ++ cs.drop ((i + 1) * 33 + ((l.drop i).map blC).flatten.length)).take (i * 33) ++ blC x ++
      (cs.take ((i + 1) * 33) ++ ((l.drop i).map blC).flatten ++ cs.drop ((i + 1) * 33 + ((l.drop i).map blC).flatten.length)).drop (i * 33 + (blC x).length)) = ((l.take i ++ x :: l.drop i).map blC).flatten := by
  have heach : ∀ e ∈ l.map blC, e.length = 33 := fun e he => by
    obtain ⟨y, hy, rfl⟩ := List.mem_map.1 he
    exact blC_len (h32 y hy)
  have h1 : (cs.drop (i * 33)).take ((n - i) * 33) = ((l.drop i).map blC).flatten := by
    rw [List.map_drop, ← flat_drop i heach, ← hcs, List.drop_take]
    congr 1
    omega
  have h2 : ((l.drop i).map blC).flatten.length = (n - i) * 33 := by
    rw [blC_flat _ (fun y hy => h32 y (List.mem_of_mem_drop hy)), List.length_drop, hl]
  have h3 : cs.drop ((i + 1) * 33 + ((l.drop i).map blC).flatten.length) = [] := List.drop_of_length_le (by rw [h2, hlen]; omega)
  have h4 : cs.take (i * 33) = ((l.take i).map blC).flatten := by
    rw [List.map_take, ← flat_take i heach, ← hcs, List.take_take, Nat.min_eq_left (by omega)]
  refine ⟨h1, h2, ?_, ?_⟩
  · rw [h3, List.append_nil, List.length_append, List.length_take, h2]; omega
  · rw [h3, List.append_nil, hx]
    rw [List.take_append_of_le_length (by rw [List.length_take]; omega), List.take_take, Nat.min_eq_left (by omega), h4]
    rw [List.drop_left' (by rw [List.length_take]; omega)]
    simp
end Go.Adm
namespace Go.Proofs.YtkcmaembpfakdaaGreatDoor
open Go Go.RowKit Go.Adm

set_option maxHeartbeats 3200000 in
theorem Insert_any (w : World) (rs : List Res) (g g2 n i : Nat) (cs : List Value) (l : List Bl) (x : Bl) (hR : All w (.cells g 51 cs :: .cells g2 51 (blC x) :: rs)) (hap : Apart (some g) rs) (hne : g2 ≠ g)
    (hlen : cs.length = (n + 1) * 33) (hcs : cs.take (n * 33) = (l.map blC).flatten) (hl : l.length = n) (h32 : ∀ y ∈ l, y.d.length = 32) (hx : x.d.length = 32) (hi : i ≤ n) (hn2 : n ≤ 1000000) :
    Calls Tryz.prog 43 #[.slice (some ⟨g, 0, none⟩) n (n + 1), .int .i64 i, .slice (some ⟨g2, 0, none⟩) 1 1] w fun e w' => e = .returned (.slice (some ⟨g, 0, none⟩) (n + 1) (n + 1)) ∧
      All w' (.cells g 51 ((l.take i ++ x :: l.drop i).map blC).flatten :: .cells g2 51 (blC x) :: rs) := by
  have hx33 := Lib.hid (blC_len hx)
  have HL := Lib.hid hlen
  have HCS := Lib.hid hcs
  have HN := Lib.hid hl
  have H32 := Lib.hid h32
  clear hlen hcs hl h32 hx
  have wi0 : (0 : Int) ≤ (i : Int) := by omega
  have wi1 : (i : Int) ≤ (n : Int) := by omega
  have wi2 : (i : Int) ≤ (n : Int) + 1 := by omega
  have wi3 : ¬ (n + 1 = i) := by omega
  have w1 : IntKind.i64.wrap ((n : Int) + 1) = (n : Int) + 1 := by rw [IntWalk.i64_in _ (by omega)]
  have w2 : IntKind.i64.wrap ((i : Int) + 1) = (i : Int) + 1 := by rw [IntWalk.i64_in _ (by omega)]
  go_enter Tryz.func43, Tryz.ntmps43
  by_cases hin : i = n
  · subst hin
    have d1 : ((i : Int) == (i : Int)) = true := by simp
    go_wp2_with (refine wl_app_cells el_bl hR 0 rfl (.tmp 23) (.tmp 24) rfl g i (i + 1) cs rfl rfl ⟨g2, 0, none⟩ 1 1 (blC x) rfl (by rw [hx33.out]) (Cells.sub (hR.at_ 1 rfl) 0 (fun j u h => by simpa [Nat.zero_add] using h)) (blC_one x) (Nat.le_refl _) (by rw [hx33.out, HL.out]; omega) ⟨by simp [Res.apart]; omega, hap⟩ ?_; intro W5 hW5 hs5)
    have hfin : cs.take (i * 33) ++ blC x ++ cs.drop (i * 33 + (blC x).length) = ((l.take i ++ x :: l.drop i).map blC).flatten := by
      rw [HCS.out, List.drop_of_length_le (by rw [hx33.out, HL.out]; omega), List.append_nil, List.take_of_length_le (by rw [HN.out]; exact Nat.le_refl _), List.drop_of_length_le (by rw [HN.out]; exact Nat.le_refl _)]
      simp
    rw [hfin] at hW5
    go_ret
    exact ⟨rfl, hW5⟩
  · have hlt : i < n := by omega
    have d1 : ((i : Int) == (n : Int)) = false := by simp; omega
    have d2 : (i == n) = false := by simp; omega
    have wi4 : ¬ (n + 1 = i + 1) := by omega
    have wi7 : ¬ (n = i) := by omega
    have wi5 : (i : Int) + 1 ≤ (n : Int) + 1 := by omega
    have wi6 : (0 : Int) ≤ (i : Int) + 1 := by omega
    have hwi : ((i : Int) + 1).toNat = i + 1 := by omega
    have hwn : ((n : Int) + 1).toNat = n + 1 := by omega
    clear hin
    have hI0 := hR
    clear hR
    go_upto_region 14 with (fail)
    go_wp2_with fail
    rw [run_callFunc_extern Tryz.func60 (by kernel_rfl) (by kernel_rfl) (by kernel_rfl) (e := Extern.SlicesOverlaps.overlaps #[22, 22] #[4]) (by kernel_rfl),
      Lib.run_overlaps_apart w 22 4 51 el_bl.ht 33 (fun w => by kernel_rfl) ⟨g2, 0, none⟩ ⟨g, (i + 1) * 33, none⟩ 1 1 (n - i) (n - i) hne _ _ _ _ (shape_cells (hI0.at_ 1 rfl)) (shape_cells (hI0.at_ 0 rfl)) (by rw [HL.out]; omega) (Cells.frozen (hI0.at_ 1 rfl) _) (Cells.frozen (hI0.at_ 1 rfl) _)]
    go_upto_region 15 with (fail)
    refine wp_region_hops 8 [69, 70, 71, 72, 73, 74, 75, 76] (.cells g 51 cs :: .cells g2 51 (blC x) :: rs)
      [.eq (.slice (some ⟨g, 0, none⟩) (n + 1) (n + 1)), .eq (.int .i64 i), .eq (.int .i64 1), .eq (.int .i64 ((i : Int) + 1)), .eq (.slice (some ⟨g, (i + 1) * 33, none⟩) (n - i) (n - i)), .eq (.slice (some ⟨g, 0, none⟩) (n + 1) (n + 1)), .eq (.int .i64 i), .eq (.slice (some ⟨g, i * 33, none⟩) (n + 1 - i) (n + 1 - i))]
      (by kernel_rfl) (by kernel_rfl) hI0 rfl ?hops ?fin
    case hops =>
      refine ⟨?_, ?_, ?_, ?_, ?_, ?_, ?_, ?_, trivial⟩
      · intro a W hW hb hd K hK
        have b0 := hb 0 rfl
        go_simp
        exact hK _ _ (World.grownBy.refl _ _) rfl
      · intro a W hW hb hd K hK
        have b1 := hb 1 rfl
        go_simp
        exact hK _ _ (World.grownBy.refl _ _) rfl
      · intro a W hW hb hd K hK
        have b7 := hb 7 rfl
        go_simp
        exact hK _ _ (World.grownBy.refl _ _) rfl
      · intro a W hW hb hd K hK
        have b70 : a.tmps[70]?.getD undef = _ := hd ⟨1, .data⟩ (by simp) rfl
        have b71 : a.tmps[71]?.getD undef = _ := hd ⟨2, .data⟩ (by simp) rfl
        go_simp
        exact hK _ _ (World.grownBy.refl _ _) rfl
      · intro a W hW hb hd K hK
        have b69 : a.tmps[69]?.getD undef = _ := hd ⟨0, .data⟩ (by simp) rfl
        have b72 : a.tmps[72]?.getD undef = _ := hd ⟨3, .data⟩ (by simp) rfl
        go_simp
        exact hK _ _ (World.grownBy.refl _ _) rfl
      · intro a W hW hb hd K hK
        have b0 := hb 0 rfl
        go_simp
        exact hK _ _ (World.grownBy.refl _ _) rfl
      · intro a W hW hb hd K hK
        have b1 := hb 1 rfl
        go_simp
        exact hK _ _ (World.grownBy.refl _ _) rfl
      · intro a W hW hb hd K hK
        have b74 : a.tmps[74]?.getD undef = _ := hd ⟨5, .data⟩ (by simp) rfl
        have b75 : a.tmps[75]?.getD undef = _ := hd ⟨6, .data⟩ (by simp) rfl
        go_simp
        exact hK _ _ (World.grownBy.refl _ _) rfl
    case fin =>
      intro vs w6 hD hv
      have e4 : vs 4 = _ := hv 4 (by decide)
      have e7 : vs 7 = _ := hv 7 (by decide)
      clear hv hI0
      simp only [putAll, List.drop_succ_cons, List.drop_zero, e4, e7, Act.put, List.setIfInBounds_toArray, List.set_cons_succ, List.set_cons_zero]
      clear e4 e7
      obtain ⟨f1, f2, f3, f4⟩ := ins_cells HCS.out HL.out HN.out H32.out hx33.out hlt
      have F1 := Lib.hid f1
      have F2 := Lib.hid f2
      have F3 := Lib.hid f3
      have F4 := Lib.hid f4
      clear f1 f2 f3 f4
      refine wl_copy_wide el_bl hD 0 rfl (.tmp 73) (.tmp 76) rfl g ((i + 1) * 33) (n - i) (n - i) cs rfl rfl ⟨g, i * 33, none⟩ (n + 1 - i) (n + 1 - i) (n - i) ((l.drop i).map blC).flatten rfl (Nat.min_eq_right (by omega)).symm F2.out (Cells.sub (hD.at_ 0 rfl) (i * 33) (fun j u h => by { rw [← F1.out, List.getElem?_take] at h; split at h; { rw [List.getElem?_drop] at h; exact h }; { cases h } })) (fun v hv => by { obtain ⟨q, hq, hv⟩ := List.mem_flatten.1 hv; obtain ⟨y, _, rfl⟩ := List.mem_map.1 hq; exact blC_one y v hv }) (by rw [F2.out, HL.out]; omega) ⟨by simp [Res.apart]; omega, hap⟩ ?_
      intro W7 hW7 hs7
      go_wp2_with (refine wl_copy_wide el_bl hW7 0 rfl (.tmp 80) (.tmp 81) rfl g (i * 33) (n + 1 - i) (n + 1 - i) _ rfl rfl ⟨g2, 0, none⟩ 1 1 1 (blC x) rfl (Nat.min_eq_left (by omega)).symm (by rw [hx33.out]) (Cells.sub (hW7.at_ 1 rfl) 0 (fun j u h => by simpa [Nat.zero_add] using h)) (blC_one x) (by rw [F3.out, hx33.out]; omega) ⟨by simp [Res.apart]; omega, hap⟩ ?_; intro W8 hW8 hs8)
      go_ret
      rw [F4.out] at hW8
      exact ⟨rfl, hW8⟩
end Go.Proofs.YtkcmaembpfakdaaGreatDoor

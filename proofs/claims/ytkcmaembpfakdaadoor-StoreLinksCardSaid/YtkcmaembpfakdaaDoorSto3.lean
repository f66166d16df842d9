/- Blobs in memory; the data of a digest: store.get. -/
import Derived.Test.YtkcmaembpfakdaaDoorSto2
set_option linter.unusedSimpArgs false
set_option linter.unusedVariables false
set_option maxRecDepth 100000
namespace Go.Adm
open Go Go.RowKit
theorem Cells.sub {w : World} {g : Nat} {t : TypeId} {cs vs : List Value} (h : Cells w g t cs) (o : Nat) (hd : ∀ j u, vs[j]? = some u → cs[o + j]? = some u) : ∀ j u, vs[j]? = some u → w.cell? ((⟨g, o, none⟩ : Addr).add j) = some u := fun j u hu => by
  have h1 := hd j u hu
  rw [add_lit]
  rw [List.getElem?_eq_some_iff] at h1
  obtain ⟨h2, h3⟩ := h1
  rw [Cells.cell h h2, h3]
theorem Els.elem {α : Type} {w : World} {B n size : Nat} {A : Option Addr} {f : α → List Value} {l : List α} (h : Els w B size A n (l.map f)) {k : Nat} (hk : k < l.length) :
    ∃ ad, A = some ad ∧ ad.block < B ∧ ∀ j u, (f l[k])[j]? = some u → w.cell? ((ad.add (k * size)).add j) = some u := by
  obtain ⟨ad, e, hb, hc⟩ := h.at_ (k := k) (by rw [List.length_map]; exact hk)
  rw [List.getElem_map] at hc
  exact ⟨ad, e, hb, hc⟩
/-- a blob as it lies in memory: its digest, where its data are, its data -/
structure Bl where
  d : List UInt8
  A : Option Addr
  n : Nat
  c : Nat
  b : List UInt8
def blC (x : Bl) : List Value := x.d.map bv ++ [.slice x.A x.n x.c]
def blZ : List Value := List.replicate 32 (Value.int .u8 0) ++ [.slice none 0 0]
def z32 : List UInt8 := List.replicate 32 0
structure BlOk (w : World) (B : Nat) (x : Bl) : Prop where
  d32 : x.d.length = 32
  rd : Rd w B 1 x.A x.n (x.b.map bv)
  nc : x.n ≤ x.c
  cm : x.c ≤ maxLen
theorem BlOk.len {w : World} {B : Nat} {x : Bl} (h : BlOk w B x) : x.b.length = x.n := by have := h.rd.len; simpa using this
theorem BlOk.keep {w w' : World} {B : Nat} {x : Bl} (h : BlOk w B x) (hk : ∀ p : Addr, p.block < B → w'.cell? p = w.cell? p) : BlOk w' B x := ⟨h.d32, h.rd.keep hk, h.nc, h.cm⟩
theorem BlOk.mono {w : World} {B B' : Nat} {x : Bl} (h : BlOk w B x) (hB : B ≤ B') : BlOk w B' x := ⟨h.d32, h.rd.mono hB, h.nc, h.cm⟩
theorem blC_len {x : Bl} (h : x.d.length = 32) : (blC x).length = 33 := by simp [blC, h]
theorem blC_one (x : Bl) : ∀ v ∈ blC x, v.oneCell' = true := by
  intro v hv
  rcases List.mem_append.1 hv with h | h
  · exact bv_one _ v h
  · rw [List.mem_singleton.1 h]; rfl
theorem bl_sub0 (x : Bl) : ∀ j u, (x.d.map bv)[j]? = some u → (blC x)[0 + j]? = some u := fun j u hu => by
  have hj := (List.getElem?_eq_some_iff.1 hu).1
  rw [Nat.zero_add, blC, List.getElem?_append_left hj]; exact hu
theorem bl_last {x : Bl} (h : x.d.length = 32) : (blC x)[32]? = some (.slice x.A x.n x.c) := by
  rw [blC, List.getElem?_append_right (by rw [List.length_map, h]; exact Nat.le_refl _), List.length_map, h]; rfl
/-- a slice of blobs -/
structure Blobs (w : World) (B : Nat) (A : Option Addr) (n : Nat) (l : List Bl) : Prop where
  els : Els w B 33 A n (l.map blC)
  each : ∀ x ∈ l, BlOk w B x
  len : l.length = n
theorem Blobs.keep {w w' : World} {B n : Nat} {A : Option Addr} {l : List Bl} (h : Blobs w B A n l) (hk : ∀ p : Addr, p.block < B → w'.cell? p = w.cell? p) : Blobs w' B A n l :=
  ⟨⟨h.els.rd.keep hk, h.els.each, h.els.len⟩, fun x hx => (h.each x hx).keep hk, h.len⟩
theorem Blobs.mono {w : World} {B B' n : Nat} {A : Option Addr} {l : List Bl} (h : Blobs w B A n l) (hB : B ≤ B') : Blobs w B' A n l :=
  ⟨h.els.mono hB, fun x hx => (h.each x hx).mono hB, h.len⟩
def Low.blobs (B : Nat) (A : Option Addr) (n : Nat) (l : List Bl) : Low := ⟨B, fun w => Blobs w B A n l, fun _ _ hk h => h.keep hk⟩
/-- the first blob with a digest -/
def lookB (l : List Bl) (d : List UInt8) : Option Bl := l.find? fun x => decide (x.d = d)
theorem lookB_hit {l : List Bl} {d : List UInt8} {k : Nat} (hk : k < l.length) (h : ∀ j (hj : j < l.length), j < k → l[j].d ≠ d) (he : l[k].d = d) : lookB l d = some l[k] := by
  induction l generalizing k with
  | nil => simp at hk
  | cons x r ih =>
    cases k with
    | zero => unfold lookB; rw [List.find?_cons_of_pos (by simpa using he)]; rfl
    | succ k =>
      have h0 := h 0 (by simp) (by omega)
      unfold lookB
      rw [List.find?_cons_of_neg (by simpa using h0)]
      exact ih (k := k) (by simpa using hk) (fun j hj hjk => by have := h (j + 1) (by simpa using hj) (by omega); simpa using this) (by simpa using he)
theorem lookB_miss {l : List Bl} {d : List UInt8} (h : ∀ j (hj : j < l.length), l[j].d ≠ d) : lookB l d = none := by
  unfold lookB
  rw [List.find?_eq_none]
  intro x hx
  obtain ⟨j, hj, rfl⟩ := List.getElem_of_mem hx
  simpa using h j hj
def got (o : Option Bl) : Value := match o with
  | none => .tuple #[.slice none 0 0, .bool false]
  | some x => .tuple #[.slice x.A x.n x.c, .bool true]
end Go.Adm
namespace Go.Proofs.YtkcmaembpfakdaaDoor
open Go Go.RowKit Go.Adm

theorem zero_bl (w : World) : (zeroValue 56).run Tryd.prog w = .ok (.agg blZ.toArray) w := by kernel_rfl
theorem el_bl : ElemOf Tryd.prog 34 56 (.agg blZ.toArray) 33 56 := ElemOf.mk' Tryd.underlying34 (by kernel_rfl) rfl (by decide) (by decide)
theorem eq_dg (w : World) (x y : List UInt8) (hx : x.length = 32) (hy : y.length = 32) : (binOp .eql 36 (.agg (x.map bv).toArray) (.agg (y.map bv).toArray)).run Tryd.prog w = .ok (.bool (decide (x = y))) w :=
  run_eq_deep w 2 36 (by decide) (by kernel_rfl) (by simp only [Value.formed, Tryd.underlying36, List.size_toArray, List.length_map, hx]; kernel_rfl) (by simp only [Value.formed, Tryd.underlying36, List.size_toArray, List.length_map, hy]; kernel_rfl)
    (kl_bytes Tryd.underlying36 Tryd.underlying5 (by kernel_rfl) (by kernel_rfl) x hx) (kl_bytes Tryd.underlying36 Tryd.underlying5 (by kernel_rfl) (by kernel_rfl) y hy) _ (by
      rw [decide_eq_true_eq]
      exact ⟨fun h => by rw [h], map_bl_inj⟩)

set_option maxHeartbeats 3200000 in
theorem get_any (w : World) (B : Nat) (A : Option Addr) (n c : Nat) (l : List Bl) (d : List UInt8) (hl : Blobs w B A n l) (hd : d.length = 32) (hn2 : n ≤ 1000000) (hB : B ≤ w.heap.size) :
    Calls Tryd.prog 24 #[.slice A n c, .agg (d.map bv).toArray] w fun e w' => e = .returned (got (lookB l d)) ∧ Below w.heap.size w w' := by
  have hR : All w [.low (.blobs B A n l), .kept w w.heap.size] := ⟨⟨hl, hB⟩, ⟨Below.refl _ _, Nat.le_refl _⟩, trivial⟩
  have HN := Lib.hid hl.len
  have HD := Lib.hid hd
  have hzr := zero_bl
  clear hl hd
  go_enter Tryd.func24, Tryd.ntmps24
  go_upto_region 1 with (fail)
  refine wp_gen (hR.new (l := d.map bv) _ 36 rfl rfl) ?_
  intro W1 hW1
  have hwg : w.heap.size < W1.heap.size := Cells.lt (hW1.at_ 0 rfl)
  clear hR
  go_wp2
  go_loopw [10] (fun i wr => ∃ k : Nat, k ≤ n ∧ i = .int .i64 k ∧ Hid (∀ j (hj : j < l.length), j < k → l[j].d ≠ d) ∧ w.heap.size < wr.heap.size ∧ All wr [.cells w.heap.size 36 (d.map bv), .low (.blobs B A n l), .kept w w.heap.size]) (fun i _ => n - (intOf i).toNat)
  case atStart => exact ⟨0, by omega, rfl, Lib.hid (fun j hj h => absurd h (by omega)), hwg, hW1⟩
  case round =>
    clear hW1 hwg
    obtain ⟨k, hk, rfl, HA, hsr, hI⟩ := hrel
    by_cases hlt : k < n
    · have hkl : k < l.length := by rw [HN.out]; exact hlt
      have hbl := (hI.at_ 1 rfl : Blobs wr B A n l ∧ B ≤ wr.heap.size)
      obtain ⟨ad, rfl, hadB, hc⟩ := Els.elem hbl.1.els hkl
      have HC := Lib.hid hc
      have hx := Lib.hid (hbl.1.each _ (List.getElem_mem hkl)).d32
      have HHIT : Hid (l[k].d = d → lookB l d = some l[k]) := Lib.hid (fun h => lookB_hit hkl HA.out h)
      have HMISS : Hid (l[k].d ≠ d → ∀ j (hj : j < l.length), j < k + 1 → l[j].d ≠ d) := Lib.hid (fun h j hj hjk => by
        rcases Nat.lt_or_eq_of_le (Nat.le_of_lt_succ hjk) with h1 | h1
        · exact HA.out j hj h1
        · subst h1; exact h)
      clear hc
      generalize l[k] = x at *
      have d1 : decide ((k : Int) < (n : Int)) = true := by simp; omega
      have hBw : B ≤ wr.heap.size := hbl.2
      clear hbl
      obtain ⟨gx, hgx⟩ : ∃ gx, gx = wr.heap.size := ⟨_, rfl⟩
      go_upto_region 4 with (first
        | (refine wl_load_any rfl 56 (.tmp 12) rfl (ad.add (k * 33)) rfl (blC x) _ HC.out Tryd.underlying56 rfl (by rw [blC_len hx.out]; kernel_rfl) ?_)
        | (refine wl_store_at (hI.new (l := blZ) _ 56 hgx rfl) 0 rfl 56 (.tmp 7) (.tmp 13) rfl gx _ _ (blC x) rfl (by rw [hgx]; rfl) rfl (by rw [blC_len hx.out]; rfl) (by rw [blC_len hx.out]; kernel_rfl) (blC_one x) (by simp [Apart, Res.apart, Low.blobs] <;> omega) ?_; intro W2 hW2 hs2; simp only [List.set_cons_zero] at hW2))
      simp only [← hgx]
      have hsz2 : w.heap.size < W2.heap.size := by rw [hs2]; simp; omega
      have hlast : W2.cell? ⟨gx, 32, none⟩ = some (.slice x.A x.n x.c) := by
        have h1 := bl_last hx.out
        have h2 := (List.getElem?_eq_some_iff.1 h1).1
        rw [Cells.cell (hW2.at_ 0 rfl : Cells W2 gx _ _) h2]
        rw [List.getElem?_eq_getElem h2] at h1
        exact h1
      clear hgx hI hs2
      have heq := eq_dg
      cases hz : decide (x.d = d) with
      | true =>
        have HF := Lib.hid (HHIT.out (of_decide_eq_true hz))
        have q1 : ∀ W : World, (binOp .eql 36 (.agg (x.d.map bv).toArray) (.agg (d.map bv).toArray)).run Tryd.prog W = .ok (.bool true) W := fun W => by have := heq W x.d d hx.out HD.out; rwa [hz] at this
        clear hz heq HHIT HMISS
        go_wp2_with (first
          | (refine wl_load_any rfl 36 (.tmp 14) rfl ⟨gx, 0, none⟩ rfl (x.d.map bv) _ (Cells.sub (hW2.at_ 0 rfl) 0 (bl_sub0 x)) Tryd.underlying36 rfl (by rw [List.length_map, hx.out]; kernel_rfl) ?_)
          | (refine wl_load_any rfl 36 (.tmp 3) rfl ⟨w.heap.size, 0, none⟩ rfl (d.map bv) _ (Cells.sub (hW2.at_ 1 rfl) 0 (fun j u h => by rwa [Nat.zero_add])) Tryd.underlying36 rfl (by rw [List.length_map, HD.out]; kernel_rfl) ?_))
        go_ret2
        rw [HF.out]
        exact ⟨rfl, (hW2.at_ 3 rfl : _ ∧ _).1⟩
      | false =>
        have HF := Lib.hid (HMISS.out (of_decide_eq_false hz))
        have q1 : ∀ W : World, (binOp .eql 36 (.agg (x.d.map bv).toArray) (.agg (d.map bv).toArray)).run Tryd.prog W = .ok (.bool false) W := fun W => by have := heq W x.d d hx.out HD.out; rwa [hz] at this
        clear hz heq HHIT HMISS hlast
        go_wp2_with (first
          | (refine wl_load_any rfl 36 (.tmp 14) rfl ⟨gx, 0, none⟩ rfl (x.d.map bv) _ (Cells.sub (hW2.at_ 0 rfl) 0 (bl_sub0 x)) Tryd.underlying36 rfl (by rw [List.length_map, hx.out]; kernel_rfl) ?_)
          | (refine wl_load_any rfl 36 (.tmp 3) rfl ⟨w.heap.size, 0, none⟩ rfl (d.map bv) _ (Cells.sub (hW2.at_ 1 rfl) 0 (fun j u h => by rwa [Nat.zero_add])) Tryd.underlying36 rfl (by rw [List.length_map, HD.out]; kernel_rfl) ?_))
        exact ⟨⟨k + 1, by omega, by go_num, HF, hsz2, hW2.2⟩, by simp [intOf]; omega⟩
    · have d1 : decide ((k : Int) < (n : Int)) = false := by simp; omega
      have HF : Hid (lookB l d = none) := Lib.hid (lookB_miss fun j hj => HA.out j hj (by have := HN.out; omega))
      go_wp2_with fail
      go_ret2
      rw [HF.out]
      exact ⟨rfl, (hI.at_ 2 rfl : _ ∧ _).1⟩
end Go.Proofs.YtkcmaembpfakdaaDoor

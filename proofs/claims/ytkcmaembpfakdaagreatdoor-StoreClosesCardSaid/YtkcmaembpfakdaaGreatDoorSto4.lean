/- Digests are compared: both sides. The order of digests, and the place of a blob: store.order, find's closure. Blobs in memory; the data of a digest: store.get. Get on both sides. -/
import Derived.Test.YtkcmaembpfakdaaGreatDoorGen2
import Derived.Lib.Bytealg
import Derived.Deep.QuietTactic
import Derived.BigQuiet
import Derived.Deep.RegionHeld3
import Derived.IntWalk
import Derived.Deep.Cut
import Derived.Lib.BytesEntry
import Derived.Lib.SliceRun
set_option linter.unusedSimpArgs false
set_option linter.unusedVariables false
set_option maxRecDepth 100000
namespace Go.Adm
open Go Go.RowKit
theorem cmp_pre : ∀ (p a b : List UInt8), Lib.compareBytes (p ++ a) (p ++ b) = Lib.compareBytes a b
  | [], a, b => rfl
  | x :: p, a, b => by
    show (if x < x then -1 else if x < x then 1 else Lib.compareBytes (p ++ a) (p ++ b)) = _
    rw [if_neg (UInt8.lt_irrefl x), if_neg (UInt8.lt_irrefl x)]
    exact cmp_pre p a b
theorem cmp_same (a : List UInt8) : Lib.compareBytes a a = 0 := by
  have := cmp_pre a [] []
  rwa [List.append_nil] at this
theorem cmp_at {x y : List UInt8} {k : Nat} (hx : k < x.length) (hy : k < y.length) (h : x.take k = y.take k) (hne : x[k].toNat ≠ y[k].toNat) : Lib.compareBytes x y = if x[k].toNat < y[k].toNat then -1 else 1 := by
  have ex : x = x.take k ++ x[k] :: x.drop (k + 1) := by rw [← List.drop_eq_getElem_cons hx, List.take_append_drop]
  have ey : y = x.take k ++ y[k] :: y.drop (k + 1) := by rw [h, ← List.drop_eq_getElem_cons hy, List.take_append_drop]
  have e : Lib.compareBytes x y = Lib.compareBytes (x[k] :: x.drop (k + 1)) (y[k] :: y.drop (k + 1)) := by
    rw [← cmp_pre (x.take k) (x[k] :: x.drop (k + 1)) (y[k] :: y.drop (k + 1))]
    exact (congrArg (fun z => Lib.compareBytes z y) ex).trans (congrArg (fun z => Lib.compareBytes _ z) ey)
  rw [e]
  show (if x[k] < y[k] then -1 else if y[k] < x[k] then 1 else _) = _
  by_cases h1 : x[k].toNat < y[k].toNat
  · rw [if_pos (UInt8.lt_iff_toNat_lt.2 h1), if_pos h1]
  · rw [if_neg (fun h2 => h1 (UInt8.lt_iff_toNat_lt.1 h2)), if_pos (UInt8.lt_iff_toNat_lt.2 (by omega)), if_neg h1]
/-- whether a digest comes before another -/
def lessD (x y : List UInt8) : Bool := decide (Lib.compareBytes x y < 0)
theorem lessD_at {x y : List UInt8} {k : Nat} (hx : k < x.length) (hy : k < y.length) (h : x.take k = y.take k) (hne : x[k].toNat ≠ y[k].toNat) : lessD x y = decide (x[k].toNat < y[k].toNat) := by
  unfold lessD
  rw [cmp_at hx hy h hne]
  by_cases h1 : x[k].toNat < y[k].toNat
  · rw [if_pos h1, decide_eq_true h1]; rfl
  · rw [if_neg h1, decide_eq_false h1]; rfl
end Go.Adm
namespace Go.Proofs.YtkcmaembpfakdaaGreatDoor
open Go Go.RowKit Go.Adm

set_option maxHeartbeats 1600000 in
theorem Less_any (w : World) (x y : List UInt8) (hx : x.length = 32) (hy : y.length = 32) :
    Calls Tryz.prog 37 #[.agg (x.map bv).toArray, .agg (y.map bv).toArray] w fun e w' => e = .returned (.bool (lessD x y)) ∧ Below w.heap.size w w' := by
  have hR : All w [.kept w w.heap.size] := ⟨⟨Below.refl _ _, Nat.le_refl _⟩, trivial⟩
  have HX := Lib.hid hx
  have HY := Lib.hid hy
  clear hx hy
  go_enter Tryz.func37, Tryz.ntmps37
  go_upto_region 1 with (fail)
  refine wp_gen ((hR.new (l := x.map bv) _ 32 rfl rfl).new (l := y.map bv) (g := w.heap.size + 1) _ 32 (by simp) rfl) ?_
  intro W1 hW1
  clear hR
  go_wp2
  go_loopw [5] (fun i wr => ∃ k : Nat, k ≤ 32 ∧ i = .int .i64 k ∧ Hid (x.take k = y.take k) ∧ All wr [.cells (w.heap.size + 1) 32 (y.map bv), .cells w.heap.size 32 (x.map bv), .kept w w.heap.size]) (fun i _ => 32 - (intOf i).toNat)
  case atStart => exact ⟨0, by omega, rfl, Lib.hid rfl, hW1⟩
  case round =>
    clear hW1
    obtain ⟨k, hk, rfl, HT, hI⟩ := hrel
    by_cases hlt : k < 32
    · have hkx : k < x.length := by rw [HX.out]; exact hlt
      have hky : k < y.length := by rw [HY.out]; exact hlt
      have d1 : decide ((k : Int) < 32) = true := by simp; omega
      have wk0 : (0 : Int) ≤ (k : Int) := by omega
      have c1 : wr.cell? ⟨w.heap.size, k, none⟩ = some (.int .u8 (x[k].toNat : Int)) := by
        have := Cells.cell (hI.at_ 1 rfl : Cells wr w.heap.size _ _) (i := k) (by rw [List.length_map]; exact hkx)
        rw [this, List.getElem_map]; rfl
      have c2 : wr.cell? ⟨w.heap.size + 1, k, none⟩ = some (.int .u8 (y[k].toNat : Int)) := by
        have := Cells.cell (hI.at_ 0 rfl : Cells wr (w.heap.size + 1) _ _) (i := k) (by rw [List.length_map]; exact hky)
        rw [this, List.getElem_map]; rfl
      have HL : Hid (x[k].toNat ≠ y[k].toNat → lessD x y = decide (x[k].toNat < y[k].toNat)) := Lib.hid (fun h => lessD_at hkx hky HT.out h)
      have HS : Hid (x[k].toNat = y[k].toNat → x.take (k + 1) = y.take (k + 1)) := Lib.hid (fun h => by
        rw [List.take_succ_eq_append_getElem hkx, List.take_succ_eq_append_getElem hky, HT.out, UInt8.toNat_inj.1 h])
      generalize x[k].toNat = p at *
      generalize y[k].toNat = q at *
      clear hkx hky
      by_cases hpq : p = q
      · have HS2 := Lib.hid (HS.out hpq)
        subst hpq
        go_wp2_with fail
        go_quiet (fail)
        have hI1 := hI.drewN nq
        clear c1 c2 hI HS HL
        generalize wr.drewN nq = wq at *
        go_wp2_with fail
        exact ⟨⟨k + 1, by omega, by go_num, HS2, hI1⟩, by simp [intOf]; omega⟩
      · have HL2 := Lib.hid (HL.out hpq)
        have e1 : ((p : Int) != (q : Int)) = true := by simp; omega
        have e2 : (p != q) = true := by simpa using hpq
        clear hpq HS HL
        go_upto_region 4 with (fail)
        go_quiet (fail)
        have hI1 := hI.drewN nq
        have c1' : (wr.drewN nq).cell? ⟨w.heap.size, k, none⟩ = some (.int .u8 (p : Int)) := c1
        have c2' : (wr.drewN nq).cell? ⟨w.heap.size + 1, k, none⟩ = some (.int .u8 (q : Int)) := c2
        clear c1 c2 hI
        generalize wr.drewN nq = wq at *
        cases d3 : decide ((p : Int) < (q : Int)) with
        | true =>
          have d4 : decide (p < q) = true := by have := of_decide_eq_true d3; simp; omega
          have HF : Hid (lessD x y = true) := Lib.hid (by rw [HL2.out, d4])
          go_upto_region 5 with (fail)
          go_quiet (fail)
          go_wp2_with fail
          go_ret
          exact ⟨ret_bool (by rw [HF.out]), ((hI1.drewN _).at_ 2 rfl : _ ∧ _).1⟩
        | false =>
          have d4 : decide (p < q) = false := by have := of_decide_eq_false d3; simp; omega
          have HF : Hid (lessD x y = false) := Lib.hid (by rw [HL2.out, d4])
          go_upto_region 5 with (fail)
          go_quiet (fail)
          go_wp2_with fail
          go_ret
          exact ⟨ret_bool (by rw [HF.out]), ((hI1.drewN _).at_ 2 rfl : _ ∧ _).1⟩
    · have d1 : decide ((k : Int) < 32) = false := by simp; omega
      have HF : Hid (lessD x y = false) := Lib.hid (by
        have : x = y := by
          have := HT.out
          rwa [List.take_of_length_le (by rw [HX.out]; omega), List.take_of_length_le (by rw [HY.out]; omega)] at this
        unfold lessD
        rw [this, cmp_same]; rfl)
      go_wp2_with fail
      go_ret
      exact ⟨ret_bool (by rw [HF.out]), (hI.at_ 2 rfl : _ ∧ _).1⟩
end Go.Proofs.YtkcmaembpfakdaaGreatDoor
set_option linter.unusedSimpArgs false
set_option linter.unusedVariables false
set_option maxRecDepth 100000
namespace Go.Adm
open Go Go.RowKit
theorem bytesOf_nat (x : List UInt8) : Lib.bytesOf (x.map fun b => (b.toNat : Int)) = x := by
  unfold Lib.bytesOf
  rw [List.map_map]
  conv => rhs; rw [← List.map_id x]
  apply List.map_congr_left
  intro b _
  simp
theorem run_cmpBytes {P : Program} (w : World) (a b : Addr) (c c' : Nat) (x y : List UInt8) (hx : ∀ j u, (x.map bv)[j]? = some u → w.cell? (a.add j) = some u) (hy : ∀ j u, (y.map bv)[j]? = some u → w.cell? (b.add j) = some u) :
    (Extern.BytealgCompare.compare #[.slice (some a) x.length c, .slice (some b) y.length c']).run P w = .ok (.int .i64 (Lib.compareBytes x y)) w := by
  have key : ∀ (z : List UInt8) (d : Addr), (∀ j u, (z.map bv)[j]? = some u → w.cell? (d.add j) = some u) → (Extern.Bytes.loadBytes d z.length .empty).run P w = .ok ⟨z.toArray⟩ w := fun z d h => by
    have h1 := Lib.run_loadBytesX (P := P) w (z.map fun b => (b.toNat : Int)) d .empty (fun j u hu => by
      refine h j _ ?_
      rw [List.getElem?_map] at hu ⊢
      cases hz : z[j]? with
      | none => rw [hz] at hu; cases hu
      | some v => rw [hz] at hu; injection hu with hu; rw [← hu]; rfl)
    rw [List.length_map, bytesOf_nat] at h1
    rw [h1]
    congr 1
    apply ByteArray.ext
    show (#[] : Array UInt8) ++ z.toArray = z.toArray
    simp
  have h1 := key x a hx
  have h2 := key y b hy
  have hs := Lib.run_compareString (P := P) ⟨x.toArray⟩ ⟨y.toArray⟩ w
  change Sem.run P (do pure (goInt (Extern.BytealgCompare.cmp (← Extern.Bytes.bytesOf (.slice (some a) x.length c)) (← Extern.Bytes.bytesOf (.slice (some b) y.length c'))))) w = _
  change Sem.run P (do pure (goInt (Extern.BytealgCompare.cmp (← Extern.Bytes.bytesOf (.string ⟨x.toArray⟩)) (← Extern.Bytes.bytesOf (.string ⟨y.toArray⟩))))) w = _ at hs
  simp only [Extern.Bytes.bytesOf, Sem.run_bind, Sem.run_pure, h1, h2, Result.andThen] at hs ⊢
  exact hs
end Go.Adm
namespace Go.Proofs.YtkcmaembpfakdaaGreatDoor
open Go Go.RowKit Go.Adm

set_option maxHeartbeats 800000 in
theorem bytesCompare_any (w : World) (a b : Addr) (c c' : Nat) (x y : List UInt8) (h1 : x.length = 32) (h2 : y.length = 32) (hx : ∀ j u, (x.map bv)[j]? = some u → w.cell? (a.add j) = some u) (hy : ∀ j u, (y.map bv)[j]? = some u → w.cell? (b.add j) = some u) :
    Calls Tryz.prog 53 #[.slice (some a) 32 c, .slice (some b) 32 c'] w fun e w' => e = .returned (.int .i64 (Lib.compareBytes x y)) ∧ w' = w := by
  have h := run_cmpBytes (P := Tryz.prog) w a b c c' x y hx hy
  rw [h1, h2] at h
  go_enter Tryz.func53, Tryz.ntmps53
  go_wp2_with fail
  rw [run_callFunc_extern Tryz.func80 (by kernel_rfl) (by kernel_rfl) (by kernel_rfl) (e := Extern.BytealgCompare.compare) (by kernel_rfl), h]
  go_wp2
  go_ret
  exact ⟨rfl, rfl⟩

set_option maxHeartbeats 800000 in
theorem order_any (w : World) (x y : List UInt8) (hx : x.length = 32) (hy : y.length = 32) :
    Calls Tryz.prog 30 #[.agg (x.map bv).toArray, .agg (y.map bv).toArray] w fun e w' => e = .returned (.int .i64 (Lib.compareBytes x y)) ∧ Below w.heap.size w w' := by
  have hR : All w [.kept w w.heap.size] := ⟨⟨Below.refl _ _, Nat.le_refl _⟩, trivial⟩
  have HX := Lib.hid hx
  have HY := Lib.hid hy
  clear hx hy
  go_enter Tryz.func30, Tryz.ntmps30
  go_upto_region 1 with (fail)
  refine wp_gen ((hR.new (l := x.map bv) _ 32 rfl rfl).new (l := y.map bv) (g := w.heap.size + 1) _ 32 (by simp) rfl) ?_
  intro W1 hW1
  clear hR
  refine wp_region_hops 2 [5, 6] [.cells (w.heap.size + 1) 32 (y.map bv), .cells w.heap.size 32 (x.map bv), .kept w w.heap.size]
    [.eq (.slice (some ⟨w.heap.size, 0, none⟩) 32 32), .eq (.slice (some ⟨w.heap.size + 1, 0, none⟩) 32 32)]
    (by kernel_rfl) (by kernel_rfl) hW1 rfl ?hops ?fin
  case hops =>
    refine ⟨?_, ?_, trivial⟩
    · intro a W hW hb hd K hK
      have b2 := hb 2 rfl
      go_simp
      exact hK _ _ (World.grownBy.refl _ _) rfl
    · intro a W hW hb hd K hK
      have b3 := hb 3 rfl
      go_simp
      exact hK _ _ (World.grownBy.refl _ _) rfl
  case fin =>
    intro vs V hV hv
    have e0 : vs 0 = _ := hv 0 (by decide)
    have e1 : vs 1 = _ := hv 1 (by decide)
    clear hv hW1
    simp only [putAll, List.drop_succ_cons, List.drop_zero, e0, e1, Act.put, List.setIfInBounds_toArray, List.set_cons_succ, List.set_cons_zero]
    clear e0 e1
    go_wp2_with fail
    refine (bytesCompare_any V ⟨w.heap.size, 0, none⟩ ⟨w.heap.size + 1, 0, none⟩ 32 32 x y HX.out HY.out (fun j u h => by rw [add_lit]; exact Cells.range (hV.at_ 1 rfl) j u h) (fun j u h => by rw [add_lit]; exact Cells.range (hV.at_ 0 rfl) j u h)).mono ?_
    rintro e w5 ⟨rfl, hw⟩
    rw [hw]
    go_wp2_with fail
    go_ret
    exact ⟨rfl, (hV.at_ 2 rfl : _ ∧ _).1⟩
end Go.Proofs.YtkcmaembpfakdaaGreatDoor
set_option linter.unusedSimpArgs false
set_option linter.unusedVariables false
set_option maxRecDepth 100000
namespace Go.Adm
open Go Go.RowKit
theorem Cells.sub {w : World} {g : Nat} {t : TypeId} {cs vs : List Value} (h : Cells w g t cs) (o : Nat) (hd : ∀ j u, vs[j]? = some u → cs[o + j]? = some u) : ∀ j u, vs[j]? = some u → w.cell? ((⟨g, o, none⟩ : Addr).add j) = some u := fun j u hu => by
  have h1 := hd j u hu
  rw [add_lit]
  rw [List.getElem?_eq_some_iff] at h1
  obtain ⟨h2, h3⟩ := h1
  rw [Cells.cell h h2, h3]
theorem Els.elem {α : Type} {w : World} {B n size : Nat} {A : Option Addr} {f : α → List Value} {l : List α} (h : Els w B size A n (l.map f)) {k : Nat} (hk : k < l.length) :
    ∃ ad, A = some ad ∧ ad.block < B ∧ ∀ j u, (f l[k])[j]? = some u → w.cell? ((ad.add (k * size)).add j) = some u := by
  obtain ⟨ad, e, hb, hc⟩ := h.at_ (k := k) (by rw [List.length_map]; exact hk)
  rw [List.getElem_map] at hc
  exact ⟨ad, e, hb, hc⟩
/-- a blob as it lies in memory: its digest, where its data are, its data -/
structure Bl where
  d : List UInt8
  A : Option Addr
  n : Nat
  c : Nat
  b : List UInt8
def blC (x : Bl) : List Value := x.d.map bv ++ [.slice x.A x.n x.c]
def blZ : List Value := List.replicate 32 (Value.int .u8 0) ++ [.slice none 0 0]
def z32 : List UInt8 := List.replicate 32 0
structure BlOk (w : World) (B : Nat) (x : Bl) : Prop where
  d32 : x.d.length = 32
  rd : Rd w B 1 x.A x.n (x.b.map bv)
  nc : x.n ≤ x.c
  cm : x.c ≤ maxLen
theorem BlOk.len {w : World} {B : Nat} {x : Bl} (h : BlOk w B x) : x.b.length = x.n := by have := h.rd.len; simpa using this
theorem BlOk.keep {w w' : World} {B : Nat} {x : Bl} (h : BlOk w B x) (hk : ∀ p : Addr, p.block < B → w'.cell? p = w.cell? p) : BlOk w' B x := ⟨h.d32, h.rd.keep hk, h.nc, h.cm⟩
theorem BlOk.mono {w : World} {B B' : Nat} {x : Bl} (h : BlOk w B x) (hB : B ≤ B') : BlOk w B' x := ⟨h.d32, h.rd.mono hB, h.nc, h.cm⟩
theorem blC_len {x : Bl} (h : x.d.length = 32) : (blC x).length = 33 := by simp [blC, h]
theorem blC_one (x : Bl) : ∀ v ∈ blC x, v.oneCell' = true := by
  intro v hv
  rcases List.mem_append.1 hv with h | h
  · exact bv_one _ v h
  · rw [List.mem_singleton.1 h]; rfl
theorem bl_sub0 (x : Bl) : ∀ j u, (x.d.map bv)[j]? = some u → (blC x)[0 + j]? = some u := fun j u hu => by
  have hj := (List.getElem?_eq_some_iff.1 hu).1
  rw [Nat.zero_add, blC, List.getElem?_append_left hj]; exact hu
theorem bl_last {x : Bl} (h : x.d.length = 32) : (blC x)[32]? = some (.slice x.A x.n x.c) := by
  rw [blC, List.getElem?_append_right (by rw [List.length_map, h]; exact Nat.le_refl _), List.length_map, h]; rfl
/-- a slice of blobs -/
structure Blobs (w : World) (B : Nat) (A : Option Addr) (n : Nat) (l : List Bl) : Prop where
  els : Els w B 33 A n (l.map blC)
  each : ∀ x ∈ l, BlOk w B x
  len : l.length = n
theorem Blobs.keep {w w' : World} {B n : Nat} {A : Option Addr} {l : List Bl} (h : Blobs w B A n l) (hk : ∀ p : Addr, p.block < B → w'.cell? p = w.cell? p) : Blobs w' B A n l :=
  ⟨⟨h.els.rd.keep hk, h.els.each, h.els.len⟩, fun x hx => (h.each x hx).keep hk, h.len⟩
theorem Blobs.mono {w : World} {B B' n : Nat} {A : Option Addr} {l : List Bl} (h : Blobs w B A n l) (hB : B ≤ B') : Blobs w B' A n l :=
  ⟨h.els.mono hB, fun x hx => (h.each x hx).mono hB, h.len⟩
def Low.blobs (B : Nat) (A : Option Addr) (n : Nat) (l : List Bl) : Low := ⟨B, fun w => Blobs w B A n l, fun _ _ hk h => h.keep hk⟩
/-- the first blob with a digest -/
def lookB (l : List Bl) (d : List UInt8) : Option Bl := l.find? fun x => decide (x.d = d)
theorem lookB_hit {l : List Bl} {d : List UInt8} {k : Nat} (hk : k < l.length) (h : ∀ j (hj : j < l.length), j < k → l[j].d ≠ d) (he : l[k].d = d) : lookB l d = some l[k] := by
  induction l generalizing k with
  | nil => simp at hk
  | cons x r ih =>
    cases k with
    | zero => unfold lookB; rw [List.find?_cons_of_pos (by simpa using he)]; rfl
    | succ k =>
      have h0 := h 0 (by simp) (by omega)
      unfold lookB
      rw [List.find?_cons_of_neg (by simpa using h0)]
      exact ih (k := k) (by simpa using hk) (fun j hj hjk => by have := h (j + 1) (by simpa using hj) (by omega); simpa using this) (by simpa using he)
theorem lookB_miss {l : List Bl} {d : List UInt8} (h : ∀ j (hj : j < l.length), l[j].d ≠ d) : lookB l d = none := by
  unfold lookB
  rw [List.find?_eq_none]
  intro x hx
  obtain ⟨j, hj, rfl⟩ := List.getElem_of_mem hx
  simpa using h j hj
def got (o : Option Bl) : Value := match o with
  | none => .tuple #[.slice none 0 0, .bool false]
  | some x => .tuple #[.slice x.A x.n x.c, .bool true]
end Go.Adm
namespace Go.Proofs.YtkcmaembpfakdaaGreatDoor
open Go Go.RowKit Go.Adm

theorem zero_bl (w : World) : (zeroValue 51).run Tryz.prog w = .ok (.agg blZ.toArray) w := by kernel_rfl
theorem el_bl : ElemOf Tryz.prog 22 51 (.agg blZ.toArray) 33 56 := ElemOf.mk' Tryz.underlying22 (by kernel_rfl) rfl (by decide) (by decide)
theorem eq_dg (w : World) (x y : List UInt8) (hx : x.length = 32) (hy : y.length = 32) : (binOp .eql 32 (.agg (x.map bv).toArray) (.agg (y.map bv).toArray)).run Tryz.prog w = .ok (.bool (decide (x = y))) w :=
  run_eq_deep w 2 32 (by decide) (by kernel_rfl) (by simp only [Value.formed, Tryz.underlying32, List.size_toArray, List.length_map, hx]; kernel_rfl) (by simp only [Value.formed, Tryz.underlying32, List.size_toArray, List.length_map, hy]; kernel_rfl)
    (kl_bytes Tryz.underlying32 Tryz.underlying5 (by kernel_rfl) (by kernel_rfl) x hx) (kl_bytes Tryz.underlying32 Tryz.underlying5 (by kernel_rfl) (by kernel_rfl) y hy) _ (by
      rw [decide_eq_true_eq]
      exact ⟨fun h => by rw [h], map_bl_inj⟩)

set_option maxHeartbeats 3200000 in
theorem get_any (w : World) (B : Nat) (A : Option Addr) (n c : Nat) (l : List Bl) (d : List UInt8) (hl : Blobs w B A n l) (hd : d.length = 32) (hn2 : n ≤ 1000000) (hB : B ≤ w.heap.size) :
    Calls Tryz.prog 27 #[.slice A n c, .agg (d.map bv).toArray] w fun e w' => e = .returned (got (lookB l d)) ∧ Below w.heap.size w w' := by
  have hR : All w [.low (.blobs B A n l), .kept w w.heap.size] := ⟨⟨hl, hB⟩, ⟨Below.refl _ _, Nat.le_refl _⟩, trivial⟩
  have HN := Lib.hid hl.len
  have HD := Lib.hid hd
  have hzr := zero_bl
  clear hl hd
  go_enter Tryz.func27, Tryz.ntmps27
  go_upto_region 1 with (fail)
  refine wp_gen (hR.new (l := d.map bv) _ 32 rfl rfl) ?_
  intro W1 hW1
  have hwg : w.heap.size < W1.heap.size := Cells.lt (hW1.at_ 0 rfl)
  clear hR
  go_wp2
  go_loopw [10] (fun i wr => ∃ k : Nat, k ≤ n ∧ i = .int .i64 k ∧ Hid (∀ j (hj : j < l.length), j < k → l[j].d ≠ d) ∧ w.heap.size < wr.heap.size ∧ All wr [.cells w.heap.size 32 (d.map bv), .low (.blobs B A n l), .kept w w.heap.size]) (fun i _ => n - (intOf i).toNat)
  case atStart => exact ⟨0, by omega, rfl, Lib.hid (fun j hj h => absurd h (by omega)), hwg, hW1⟩
  case round =>
    clear hW1 hwg
    obtain ⟨k, hk, rfl, HA, hsr, hI⟩ := hrel
    by_cases hlt : k < n
    · have hkl : k < l.length := by rw [HN.out]; exact hlt
      have hbl := (hI.at_ 1 rfl : Blobs wr B A n l ∧ B ≤ wr.heap.size)
      obtain ⟨ad, rfl, hadB, hc⟩ := Els.elem hbl.1.els hkl
      have HC := Lib.hid hc
      have hx := Lib.hid (hbl.1.each _ (List.getElem_mem hkl)).d32
      have HHIT : Hid (l[k].d = d → lookB l d = some l[k]) := Lib.hid (fun h => lookB_hit hkl HA.out h)
      have HMISS : Hid (l[k].d ≠ d → ∀ j (hj : j < l.length), j < k + 1 → l[j].d ≠ d) := Lib.hid (fun h j hj hjk => by
        rcases Nat.lt_or_eq_of_le (Nat.le_of_lt_succ hjk) with h1 | h1
        · exact HA.out j hj h1
        · subst h1; exact h)
      clear hc
      generalize l[k] = x at *
      have d1 : decide ((k : Int) < (n : Int)) = true := by simp; omega
      have hBw : B ≤ wr.heap.size := hbl.2
      clear hbl
      obtain ⟨gx, hgx⟩ : ∃ gx, gx = wr.heap.size := ⟨_, rfl⟩
      go_upto_region 4 with (first
        | (refine wl_load_any rfl 51 (.tmp 12) rfl (ad.add (k * 33)) rfl (blC x) _ HC.out Tryz.underlying51 rfl (by rw [blC_len hx.out]; kernel_rfl) ?_)
        | (refine wl_store_at (hI.new (l := blZ) _ 51 hgx rfl) 0 rfl 51 (.tmp 7) (.tmp 13) rfl gx _ _ (blC x) rfl (by rw [hgx]; rfl) rfl (by rw [blC_len hx.out]; rfl) (by rw [blC_len hx.out]; kernel_rfl) (blC_one x) (by simp [Apart, Res.apart, Low.blobs] <;> omega) ?_; intro W2 hW2 hs2; simp only [List.set_cons_zero] at hW2))
      simp only [← hgx]
      have hsz2 : w.heap.size < W2.heap.size := by rw [hs2]; simp; omega
      have hlast : W2.cell? ⟨gx, 32, none⟩ = some (.slice x.A x.n x.c) := by
        have h1 := bl_last hx.out
        have h2 := (List.getElem?_eq_some_iff.1 h1).1
        rw [Cells.cell (hW2.at_ 0 rfl : Cells W2 gx _ _) h2]
        rw [List.getElem?_eq_getElem h2] at h1
        exact h1
      clear hgx hI hs2
      have heq := eq_dg
      cases hz : decide (x.d = d) with
      | true =>
        have HF := Lib.hid (HHIT.out (of_decide_eq_true hz))
        have q1 : ∀ W : World, (binOp .eql 32 (.agg (x.d.map bv).toArray) (.agg (d.map bv).toArray)).run Tryz.prog W = .ok (.bool true) W := fun W => by have := heq W x.d d hx.out HD.out; rwa [hz] at this
        clear hz heq HHIT HMISS
        go_wp2_with (first
          | (refine wl_load_any rfl 32 (.tmp 14) rfl ⟨gx, 0, none⟩ rfl (x.d.map bv) _ (Cells.sub (hW2.at_ 0 rfl) 0 (bl_sub0 x)) Tryz.underlying32 rfl (by rw [List.length_map, hx.out]; kernel_rfl) ?_)
          | (refine wl_load_any rfl 32 (.tmp 3) rfl ⟨w.heap.size, 0, none⟩ rfl (d.map bv) _ (Cells.sub (hW2.at_ 1 rfl) 0 (fun j u h => by rwa [Nat.zero_add])) Tryz.underlying32 rfl (by rw [List.length_map, HD.out]; kernel_rfl) ?_))
        go_ret2
        rw [HF.out]
        exact ⟨rfl, (hW2.at_ 3 rfl : _ ∧ _).1⟩
      | false =>
        have HF := Lib.hid (HMISS.out (of_decide_eq_false hz))
        have q1 : ∀ W : World, (binOp .eql 32 (.agg (x.d.map bv).toArray) (.agg (d.map bv).toArray)).run Tryz.prog W = .ok (.bool false) W := fun W => by have := heq W x.d d hx.out HD.out; rwa [hz] at this
        clear hz heq HHIT HMISS hlast
        go_wp2_with (first
          | (refine wl_load_any rfl 32 (.tmp 14) rfl ⟨gx, 0, none⟩ rfl (x.d.map bv) _ (Cells.sub (hW2.at_ 0 rfl) 0 (bl_sub0 x)) Tryz.underlying32 rfl (by rw [List.length_map, hx.out]; kernel_rfl) ?_)
          | (refine wl_load_any rfl 32 (.tmp 3) rfl ⟨w.heap.size, 0, none⟩ rfl (d.map bv) _ (Cells.sub (hW2.at_ 1 rfl) 0 (fun j u h => by rwa [Nat.zero_add])) Tryz.underlying32 rfl (by rw [List.length_map, HD.out]; kernel_rfl) ?_))
        exact ⟨⟨k + 1, by omega, by go_num, HF, hsz2, hW2.2⟩, by simp [intOf]; omega⟩
    · have d1 : decide ((k : Int) < (n : Int)) = false := by simp; omega
      have HF : Hid (lookB l d = none) := Lib.hid (lookB_miss fun j hj => HA.out j hj (by have := HN.out; omega))
      go_wp2_with fail
      go_ret2
      rw [HF.out]
      exact ⟨rfl, (hI.at_ 2 rfl : _ ∧ _).1⟩
end Go.Proofs.YtkcmaembpfakdaaGreatDoor
set_option linter.unusedSimpArgs false
set_option linter.unusedVariables false
set_option maxRecDepth 100000
namespace Go.Proofs.YtkcmaembpfakdaaGreatDoor
open Go Go.RowKit Go.Adm

theorem el_b8 : ElemOf Tryz.prog 36 5 (.int .u8 0) 1 1 := ElemOf.mk' Tryz.underlying36 (by kernel_rfl) rfl (by decide) (by decide)

set_option maxHeartbeats 3200000 in
theorem refGet_any (w : World) (B : Nat) (A : Option Addr) (n c : Nat) (l : List Bl) (d : List UInt8) (hl : Blobs w B A n l) (hd : d.length = 32) (hn2 : n ≤ 1000000) (hB : B ≤ w.heap.size) :
    Calls Tryz.prog 31 #[.slice A n c, .agg (d.map bv).toArray] w fun e w' => e = .returned (got (lookB l d)) ∧ Below w.heap.size w w' := by
  have hR : All w [.low (.blobs B A n l), .kept w w.heap.size] := ⟨⟨hl, hB⟩, ⟨Below.refl _ _, Nat.le_refl _⟩, trivial⟩
  have HN := Lib.hid hl.len
  have HD := Lib.hid hd
  have hzr := zero_bl
  clear hl hd
  go_enter Tryz.func31, Tryz.ntmps31
  go_upto_region 1 with (fail)
  refine wp_gen (hR.new (l := d.map bv) _ 32 rfl rfl) ?_
  intro W1 hW1
  clear hR
  go_wp2
  go_loopw [6] (fun i wr => ∃ k : Nat, k ≤ n ∧ i = .int .i64 k ∧ Hid (∀ j (hj : j < l.length), j < k → l[j].d ≠ d) ∧ All wr [.cells w.heap.size 32 (d.map bv), .low (.blobs B A n l), .kept w w.heap.size]) (fun i _ => n - (intOf i).toNat)
  case atStart => exact ⟨0, by omega, rfl, Lib.hid (fun j hj h => absurd h (by omega)), hW1⟩
  case round =>
    clear hW1
    obtain ⟨k, hk, rfl, HA, hI⟩ := hrel
    by_cases hlt : k < n
    · have hkl : k < l.length := by rw [HN.out]; exact hlt
      have hbl := (hI.at_ 1 rfl : Blobs wr B A n l ∧ B ≤ wr.heap.size)
      obtain ⟨ad, rfl, hadB, hc⟩ := Els.elem hbl.1.els hkl
      have HX : Hid (∀ W, All W [.cells w.heap.size 32 (d.map bv), .low (.blobs B (some ad) n l), .kept w w.heap.size] → ∀ q s, (blC l[k])[q]? = some s → W.cell? ((ad.add (k * 33)).add q) = some s) := Lib.hid (fun W hW => by
        obtain ⟨ad', e, _, hc⟩ := Els.elem (hW.at_ 1 rfl : Blobs W B (some ad) n l ∧ B ≤ W.heap.size).1.els hkl
        obtain rfl := Option.some.inj e
        exact hc)
      have hx := Lib.hid (hbl.1.each _ (List.getElem_mem hkl)).d32
      have HHIT : Hid (l[k].d = d → lookB l d = some l[k]) := Lib.hid (fun h => lookB_hit hkl HA.out h)
      have HMISS : Hid (l[k].d ≠ d → ∀ j (hj : j < l.length), j < k + 1 → l[j].d ≠ d) := Lib.hid (fun h j hj hjk => by
        rcases Nat.lt_or_eq_of_le (Nat.le_of_lt_succ hjk) with h1 | h1
        · exact HA.out j hj h1
        · subst h1; exact h)
      clear hc hbl
      generalize l[k] = x at *
      have d1 : decide ((k : Int) < (n : Int)) = true := by simp; omega
      have wk0 : (0 : Int) ≤ (k : Int) := by omega
      have wk1 : (k : Int) < (n : Int) := by omega
      have wk2 : ((k : Int)).toNat = k := by omega
      go_upto_region 4 with (fail)
      refine wp_region_hops 6 [13, 14, 15, 16, 17, 18] [.cells w.heap.size 32 (d.map bv), .low (.blobs B (some ad) n l), .kept w w.heap.size]
        [.eq (.slice (some ad) n c), .eq (.int .i64 k), .eq (.pointer (some (ad.add (k * 33)))), .eq (.pointer (some (ad.add (k * 33)))), .eq (.agg (x.d.map bv).toArray), .eq (.agg (d.map bv).toArray)]
        (by kernel_rfl) (by kernel_rfl) hI rfl ?hops ?fin
      case hops =>
        refine ⟨?_, ?_, ?_, ?_, ?_, ?_, trivial⟩
        · intro a W hW hb hd K hK
          have b0 := hb 0 rfl
          go_simp
          exact hK _ _ (World.grownBy.refl _ _) rfl
        · intro a W hW hb hd K hK
          have b6 := hb 6 rfl
          go_simp
          exact hK _ _ (World.grownBy.refl _ _) rfl
        · intro a W hW hb hd K hK
          have b13 : a.tmps[13]?.getD undef = _ := hd ⟨0, .data⟩ (by simp) rfl
          have b14 : a.tmps[14]?.getD undef = _ := hd ⟨1, .data⟩ (by simp) rfl
          go_simp
          exact hK _ _ (World.grownBy.refl _ _) rfl
        · intro a W hW hb hd K hK
          have b15 : a.tmps[15]?.getD undef = _ := hd ⟨2, .data⟩ (by simp) rfl
          go_simp
          exact hK _ _ (World.grownBy.refl _ _) (by first | rfl | (rw [add_zero]; rfl) | (simp [add_zero]; rfl))
        · intro a W hW hb hd K hK
          have b16 : a.tmps[16]?.getD undef = _ := hd ⟨3, .data⟩ (by simp) rfl
          refine wp_load_any 32 (.tmp 16) rfl (ad.add (k * 33)) (show a.eval (.tmp 16) = _ from by simp only [Act.eval, Array.getD_eq_getD_getElem?]; exact b16) (x.d.map bv) _ (fun q s hs => HX.out W hW q s (by have := bl_sub0 x q s hs; rwa [Nat.zero_add] at this)) Tryz.underlying32 rfl (by rw [List.length_map, hx.out]; kernel_rfl) ?_
          exact hK _ _ (World.grownBy.refl _ _) rfl
        · intro a W hW hb hd K hK
          have b3 := hb 3 rfl
          refine wp_load_any 32 (.tmp 3) rfl ⟨w.heap.size, 0, none⟩ (show a.eval (.tmp 3) = _ from by simp only [Act.eval, Array.getD_eq_getD_getElem?]; exact b3) (d.map bv) _ (Cells.sub (hW.at_ 0 rfl) 0 (fun j u h => by rwa [Nat.zero_add])) Tryz.underlying32 rfl (by rw [List.length_map, HD.out]; kernel_rfl) ?_
          exact hK _ _ (World.grownBy.refl _ _) rfl
      case fin =>
        intro vs V hV hv
        have e4 : vs 4 = _ := hv 4 (by decide)
        have e5 : vs 5 = _ := hv 5 (by decide)
        clear hv hI
        simp only [putAll, List.drop_succ_cons, List.drop_zero, e4, e5, Act.put, List.setIfInBounds_toArray, List.set_cons_succ, List.set_cons_zero]
        clear e4 e5
        have heq := eq_dg
        cases hz : decide (x.d = d) with
        | true =>
          have HF := Lib.hid (HHIT.out (of_decide_eq_true hz))
          have q1 : ∀ W : World, (binOp .eql 32 (.agg (x.d.map bv).toArray) (.agg (d.map bv).toArray)).run Tryz.prog W = .ok (.bool true) W := fun W => by have := heq W x.d d hx.out HD.out; rwa [hz] at this
          have hlast : V.cell? ⟨(ad.add (k * 33)).block, (ad.add (k * 33)).off + 32, none⟩ = some (.slice x.A x.n x.c) := HX.out V hV 32 _ (bl_last hx.out)
          have hlast' : V.cell? ((ad.add (k * 33)).add 32) = some (.slice x.A x.n x.c) := hlast
          clear hz heq HHIT HMISS
          go_wp2_with fail
          go_ret2
          rw [HF.out]
          exact ⟨rfl, (hV.at_ 2 rfl : _ ∧ _).1⟩
        | false =>
          have HF := Lib.hid (HMISS.out (of_decide_eq_false hz))
          have q1 : ∀ W : World, (binOp .eql 32 (.agg (x.d.map bv).toArray) (.agg (d.map bv).toArray)).run Tryz.prog W = .ok (.bool false) W := fun W => by have := heq W x.d d hx.out HD.out; rwa [hz] at this
          clear hz heq HHIT HMISS
          go_wp2_with fail
          exact ⟨⟨k + 1, by omega, by go_num, HF, hV⟩, by simp [intOf]; omega⟩
    · have d1 : decide ((k : Int) < (n : Int)) = false := by simp; omega
      have HF : Hid (lookB l d = none) := Lib.hid (lookB_miss fun j hj => HA.out j hj (by have := HN.out; omega))
      go_wp2_with fail
      go_ret2
      rw [HF.out]
      exact ⟨rfl, (hI.at_ 2 rfl : _ ∧ _).1⟩

set_option maxHeartbeats 800000 in
theorem Clone_any (w : World) (B : Nat) (A : Option Addr) (n c : Nat) (b : List UInt8) (h : Rd w B 1 A n (b.map bv)) (hB : B ≤ w.heap.size) (hn : n ≤ 140737488355000) (hnc : n ≤ c) (hc : c ≤ maxLen) :
    Calls Tryz.prog 34 #[.slice A n c] w fun e w' => ∃ A' c', e = .returned (.slice A' n c') ∧ Below w.heap.size w w' ∧ Rd w' w'.heap.size 1 A' n (b.map bv) := by
  have hbl : b.length = n := by have := h.len; simpa using this
  have q23 : ∀ (w : World) (a : Option Addr) (n c n' c' : Nat), (binOp .eql 36 (.slice a n c) (.slice none n' c')).run Tryz.prog w = .ok (.bool a.isNone) w := fun w a n c n' c' => Lib.run_eql_slice_nil w _ _ a n c n' c' Tryz.underlying36
  cases A with
  | none =>
    have hn0 : n = 0 := by
      rcases Nat.eq_zero_or_pos n with h0 | h0
      · exact h0
      · obtain ⟨ad, e, _⟩ := h.at_ h0; cases e
    subst hn0
    have hb : b = [] := List.eq_nil_of_length_eq_zero hbl
    subst hb
    go_enter Tryz.func34, Tryz.ntmps34
    go_wp2_with fail
    go_ret
    exact ⟨none, 0, rfl, Below.refl _ _, Rd.nil⟩
  | some ad =>
    have hown0 : Go.Adm.Own (w.alloc (.cells #[] 5)) w.heap.size 5 1 (some ⟨w.heap.size, 0, none⟩) 0 0 [] := Go.Adm.Own.lit w #[] 0 (Nat.le_refl _) (by decide) rfl
    have hrx : Rd (w.alloc (.cells #[] 5)) B 1 (some ad) n (b.map bv) := h.alloc hB _
    clear h hbl
    go_enter Tryz.func34, Tryz.ntmps34
    go_wp2_with (at_builtin; refine wl_app _ el_b8 rfl (.tmp 5) (.tmp 6) rfl w.heap.size _ 0 0 [] rfl hown0 B _ n c (b.map bv) rfl hrx (bv_one _) (by omega) (by simp) ?_; intro A3 c3 w3 hown3 hb3 hg3)
    go_ret
    have hown4 := hown3.cast (Nat.zero_add n) (List.nil_append _)
    exact ⟨A3, c3, rfl, ((Below.refl _ w).alloc (Nat.le_refl _) _).trans hb3, hown4.rd⟩

def dataB (o : Option Bl) : List UInt8 := match o with
  | none => []
  | some x => x.b
theorem lookB_mem {l : List Bl} {d : List UInt8} {x : Bl} (h : lookB l d = some x) : x ∈ l := List.mem_of_find?_eq_some h

set_option maxHeartbeats 1600000 in
theorem Get_any (w : World) (B : Nat) (A : Option Addr) (n c : Nat) (l : List Bl) (d : List UInt8) (hl : Blobs w B A n l) (hd : d.length = 32) (hn2 : n ≤ 1000000) (hB : B ≤ w.heap.size) (hbig : ∀ x ∈ l, x.n ≤ 140737488355000) :
    Calls Tryz.prog 14 #[.slice A n c, .agg (d.map bv).toArray] w fun e w' => ∃ A' n' c', e = .returned (.tuple #[.slice A' n' c', .bool (lookB l d).isSome]) ∧ Below w.heap.size w w' ∧ Rd w' w'.heap.size 1 A' n' ((dataB (lookB l d)).map bv) := by
  have hR : All w [.low (.blobs B A n l), .kept w w.heap.size] := ⟨⟨hl, hB⟩, ⟨Below.refl _ _, Nat.le_refl _⟩, trivial⟩
  have HD := Lib.hid hd
  clear hl hd
  go_enter Tryz.func14, Tryz.ntmps14
  go_upto_region 1 with (fail)
  refine wp_gen (hR.new (l := d.map bv) _ 32 rfl rfl) ?_
  intro W1 hW1
  clear hR
  have hgt := get_any W1 B A n c l d (hW1.at_ 1 rfl : Blobs W1 B A n l ∧ _).1 HD.out hn2 (hW1.at_ 1 rfl : _ ∧ B ≤ W1.heap.size).2
  go_wp2_with (refine wl_load_any rfl 32 (.tmp 3) rfl ⟨w.heap.size, 0, none⟩ rfl (d.map bv) _ (Cells.sub (hW1.at_ 0 rfl) 0 (fun j u h => by rwa [Nat.zero_add])) Tryz.underlying32 rfl (by rw [List.length_map, HD.out]; kernel_rfl) ?_)
  refine hgt.mono ?_
  clear hgt
  rintro e w2 ⟨rfl, hb2⟩
  have hW2 := hW1.call hb2
  clear hW1 hb2
  cases hk : lookB l d with
  | none =>
    have HK := Lib.hid hk
    have hcl := Clone_any w2 0 none 0 0 [] Rd.nil (Nat.zero_le _) (by omega) (Nat.le_refl _) (Nat.zero_le _)
    clear hk
    unfold got
    go_wp2_with fail
    refine hcl.mono ?_
    clear hcl
    rintro e w3 ⟨A3, c3, rfl, hb3, hr3⟩
    have hW3 := hW2.call hb3
    go_wp2_with fail
    go_ret2
    exact ⟨A3, 0, c3, by rw [HK.out]; rfl, (hW3.at_ 2 rfl : _ ∧ _).1, by rw [HK.out]; exact hr3⟩
  | some x =>
    have HK := Lib.hid hk
    have hm := lookB_mem hk
    have hx := (hW2.at_ 1 rfl : Blobs w2 B A n l ∧ B ≤ w2.heap.size).1.each x hm
    have hcl := Clone_any w2 B x.A x.n x.c x.b hx.rd (hW2.at_ 1 rfl : _ ∧ B ≤ w2.heap.size).2 (hbig x hm) hx.nc hx.cm
    clear hk hm hx
    unfold got
    go_wp2_with fail
    refine hcl.mono ?_
    clear hcl
    rintro e w3 ⟨A3, c3, rfl, hb3, hr3⟩
    have hW3 := hW2.call hb3
    go_wp2_with fail
    go_ret2
    exact ⟨A3, x.n, c3, by rw [HK.out]; rfl, (hW3.at_ 2 rfl : _ ∧ _).1, by rw [HK.out]; exact hr3⟩
end Go.Proofs.YtkcmaembpfakdaaGreatDoor

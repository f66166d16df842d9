/- Digests are compared: both sides. The order of digests, and the place of a blob: store.order, find's closure. Blobs in memory; the data of a digest: store.get. The order of digests: plain laws. -/
import Derived.Test.YtfakjamocpamiaaGen2
import Derived.Lib.Bytealg
import Derived.Deep.QuietTactic
import Derived.BigQuiet
import Derived.Deep.RegionHeld3
import Derived.IntWalk
import Derived.Deep.Cut
import Derived.Lib.BytesEntry
set_option linter.unusedSimpArgs false
set_option linter.unusedVariables false
set_option maxRecDepth 100000
namespace Go.Adm
open Go Go.RowKit
theorem cmp_pre : ∀ (p a b : List UInt8), Lib.compareBytes (p ++ a) (p ++ b) = Lib.compareBytes a b
 | [], a, b => rfl
 | x :: p, a, b => by
  show (if x < x then -1 else if x < x then 1 else Lib.compareBytes (p ++ a) (p ++ b)) = _
  rw [if_neg (UInt8.lt_irrefl x), if_neg (UInt8.lt_irrefl x)]
  exact cmp_pre p a b
theorem cmp_same (a : List UInt8) : Lib.compareBytes a a = 0 := by
 have := cmp_pre a [] []
 rwa [List.append_nil] at this
theorem cmp_at {x y : List UInt8} {k : Nat} (hx : k < x.length) (hy : k < y.length) (h : x.take k = y.take k) (hne : x[k].toNat ≠ y[k].toNat) : Lib.compareBytes x y = if x[k].toNat < y[k].toNat then -1 else 1 := by
 have ex : x = x.take k ++ x[k] :: x.drop (k + 1) := by rw [← List.drop_eq_getElem_cons hx, List.take_append_drop]
 have ey : y = x.take k ++ y[k] :: y.drop (k + 1) := by rw [h, ← List.drop_eq_getElem_cons hy, List.take_append_drop]
 have e : Lib.compareBytes x y = Lib.compareBytes (x[k] :: x.drop (k + 1)) (y[k] :: y.drop (k + 1)) := by
  rw [← cmp_pre (x.take k) (x[k] :: x.drop (k + 1)) (y[k] :: y.drop (k + 1))]
  exact (congrArg (fun z => Lib.compareBytes z y) ex).trans (congrArg (fun z => Lib.compareBytes _ z) ey)
 rw [e]
 show (if x[k] < y[k] then -1 else if y[k] < x[k] then 1 else _) = _
 by_cases h1 : x[k].toNat < y[k].toNat
 ·rw [if_pos (UInt8.lt_iff_toNat_lt.2 h1), if_pos h1]
 ·rw [if_neg (fun h2 => h1 (UInt8.lt_iff_toNat_lt.1 h2)), if_pos (UInt8.lt_iff_toNat_lt.2 (by omega)), if_neg h1]
/-- whether a digest comes before another -/
def lessD (x y : List UInt8) : Bool := decide (Lib.compareBytes x y < 0)
theorem lessD_at {x y : List UInt8} {k : Nat} (hx : k < x.length) (hy : k < y.length) (h : x.take k = y.take k) (hne : x[k].toNat ≠ y[k].toNat) : lessD x y = decide (x[k].toNat < y[k].toNat) := by
 unfold lessD
 rw [cmp_at hx hy h hne]
 by_cases h1 : x[k].toNat < y[k].toNat
 ·rw [if_pos h1, decide_eq_true h1]; rfl
 ·rw [if_neg h1, decide_eq_false h1]; rfl
end Go.Adm
namespace Go.Proofs.Ytfakjamocpamiaa
open Go Go.RowKit Go.Adm

set_option maxHeartbeats 1600000 in
theorem Less_any (w : World) (x y : List UInt8) (hx : x.length = 32) (hy : y.length = 32) :
  Calls Try.prog 31 #[.agg (x.map bv).toArray, .agg (y.map bv).toArray] w fun e w' => e = .returned (.bool (lessD x y)) ∧ Below w.heap.size w w' := by
 have hR : All w [.kept w w.heap.size] := ⟨⟨Below.refl _ _, Nat.le_refl _⟩, trivial⟩
 have HX := Lib.hid hx
 have HY := Lib.hid hy
 clear hx hy
 go_enter Try.func31, Try.ntmps31
 go_upto_region 1 with (fail)
 refine wp_gen ((hR.new (l := x.map bv) _ 37 rfl rfl).new (l := y.map bv) (g := w.heap.size + 1) _ 37 (by simp) rfl) ?_
 intro W1 hW1
 clear hR
 go_wp2
 go_loopw [5] (fun i wr => ∃ k : Nat, k ≤ 32 ∧ i = .int .i64 k ∧ Hid (x.take k = y.take k) ∧ All wr [.cells (w.heap.size + 1) 37 (y.map bv), .cells w.heap.size 37 (x.map bv), .kept w w.heap.size]) (fun i _ => 32 - (intOf i).toNat)
 case atStart => exact ⟨0, by omega, rfl, Lib.hid rfl, hW1⟩
 case round =>
  clear hW1
  obtain ⟨k, hk, rfl, HT, hI⟩ := hrel
  by_cases hlt : k < 32
  ·have hkx : k < x.length := by rw [HX.out]; exact hlt
   have hky : k < y.length := by rw [HY.out]; exact hlt
   have d1 : decide ((k : Int) < 32) = true := by simp; omega
   have wk0 : (0 : Int) ≤ (k : Int) := by omega
   have c1 : wr.cell? ⟨w.heap.size, k, none⟩ = some (.int .u8 (x[k].toNat : Int)) := by
    have := Cells.cell (hI.at_ 1 rfl : Cells wr w.heap.size _ _) (i := k) (by rw [List.length_map]; exact hkx)
    rw [this, List.getElem_map]; rfl
   have c2 : wr.cell? ⟨w.heap.size + 1, k, none⟩ = some (.int .u8 (y[k].toNat : Int)) := by
    have := Cells.cell (hI.at_ 0 rfl : Cells wr (w.heap.size + 1) _ _) (i := k) (by rw [List.length_map]; exact hky)
    rw [this, List.getElem_map]; rfl
   have HL : Hid (x[k].toNat ≠ y[k].toNat → lessD x y = decide (x[k].toNat < y[k].toNat)) := Lib.hid (fun h => lessD_at hkx hky HT.out h)
   have HS : Hid (x[k].toNat = y[k].toNat → x.take (k + 1) = y.take (k + 1)) := Lib.hid (fun h => by
    rw [List.take_succ_eq_append_getElem hkx, List.take_succ_eq_append_getElem hky, HT.out, UInt8.toNat_inj.1 h])
   generalize x[k].toNat = p at *
   generalize y[k].toNat = q at *
   clear hkx hky
   by_cases hpq : p = q
   ·have HS2 := Lib.hid (HS.out hpq)
    subst hpq
    go_wp2_with fail
    go_quiet (fail)
    have hI1 := hI.drewN nq
    clear c1 c2 hI HS HL
    generalize wr.drewN nq = wq at *
    go_wp2_with fail
    exact ⟨⟨k + 1, by omega, by go_num, HS2, hI1⟩, by simp [intOf]; omega⟩
   ·have HL2 := Lib.hid (HL.out hpq)
    have e1 : ((p : Int) != (q : Int)) = true := by simp; omega
    have e2 : (p != q) = true := by simpa using hpq
    clear hpq HS HL
    go_upto_region 4 with (fail)
    go_quiet (fail)
    have hI1 := hI.drewN nq
    have c1' : (wr.drewN nq).cell? ⟨w.heap.size, k, none⟩ = some (.int .u8 (p : Int)) := c1
    have c2' : (wr.drewN nq).cell? ⟨w.heap.size + 1, k, none⟩ = some (.int .u8 (q : Int)) := c2
    clear c1 c2 hI
    generalize wr.drewN nq = wq at *
    cases d3 : decide ((p : Int) < (q : Int)) with
    | true =>
     have d4 : decide (p < q) = true := by have := of_decide_eq_true d3; simp; omega
     have HF : Hid (lessD x y = true) := Lib.hid (by rw [HL2.out, d4])
     go_upto_region 5 with (fail)
     go_quiet (fail)
     go_wp2_with fail
     go_ret
     exact ⟨ret_bool (by rw [HF.out]), ((hI1.drewN _).at_ 2 rfl : _ ∧ _).1⟩
    | false =>
     have d4 : decide (p < q) = false := by have := of_decide_eq_false d3; simp; omega
     have HF : Hid (lessD x y = false) := Lib.hid (by rw [HL2.out, d4])
     go_upto_region 5 with (fail)
     go_quiet (fail)
     go_wp2_with fail
     go_ret
     exact ⟨ret_bool (by rw [HF.out]), ((hI1.drewN _).at_ 2 rfl : _ ∧ _).1⟩
  ·have d1 : decide ((k : Int) < 32) = false := by simp; omega
   have HF : Hid (lessD x y = false) := Lib.hid (by
    have : x = y := by
     have := HT.out
     rwa [List.take_of_length_le (by rw [HX.out]; omega), List.take_of_length_le (by rw [HY.out]; omega)] at this
    unfold lessD
    rw [this, cmp_same]; rfl)
   go_wp2_with fail
   go_ret
   exact ⟨ret_bool (by rw [HF.out]), (hI.at_ 2 rfl : _ ∧ _).1⟩
end Go.Proofs.Ytfakjamocpamiaa
set_option linter.unusedSimpArgs false
set_option linter.unusedVariables false
set_option maxRecDepth 100000
namespace Go.Adm
open Go Go.RowKit
theorem bytesOf_nat (x : List UInt8) : Lib.bytesOf (x.map fun b => (b.toNat : Int)) = x := by
 unfold Lib.bytesOf
 rw [List.map_map]
 conv => rhs; rw [← List.map_id x]
 apply List.map_congr_left
 intro b _
 simp
theorem run_cmpBytes {P : Program} (w : World) (a b : Addr) (c c' : Nat) (x y : List UInt8) (hx : ∀ j u, (x.map bv)[j]? = some u → w.cell? (a.add j) = some u) (hy : ∀ j u, (y.map bv)[j]? = some u → w.cell? (b.add j) = some u) :
  (Extern.BytealgCompare.compare #[.slice (some a) x.length c, .slice (some b) y.length c']).run P w = .ok (.int .i64 (Lib.compareBytes x y)) w := by
 have key : ∀ (z : List UInt8) (d : Addr), (∀ j u, (z.map bv)[j]? = some u → w.cell? (d.add j) = some u) → (Extern.Bytes.loadBytes d z.length .empty).run P w = .ok ⟨z.toArray⟩ w := fun z d h => by
  have h1 := Lib.run_loadBytesX (P := P) w (z.map fun b => (b.toNat : Int)) d .empty (fun j u hu => by
   refine h j _ ?_
   rw [List.getElem?_map] at hu ⊢
   cases hz : z[j]? with
   | none => rw [hz] at hu; cases hu
   | some v => rw [hz] at hu; injection hu with hu; rw [← hu]; rfl)
  rw [List.length_map, bytesOf_nat] at h1
  rw [h1]
  congr 1
  apply ByteArray.ext
  show (#[] : Array UInt8) ++ z.toArray = z.toArray
  simp
 have h1 := key x a hx
 have h2 := key y b hy
 have hs := Lib.run_compareString (P := P) ⟨x.toArray⟩ ⟨y.toArray⟩ w
 change Sem.run P (do pure (goInt (Extern.BytealgCompare.cmp (← Extern.Bytes.bytesOf (.slice (some a) x.length c)) (← Extern.Bytes.bytesOf (.slice (some b) y.length c'))))) w = _
 change Sem.run P (do pure (goInt (Extern.BytealgCompare.cmp (← Extern.Bytes.bytesOf (.string ⟨x.toArray⟩)) (← Extern.Bytes.bytesOf (.string ⟨y.toArray⟩))))) w = _ at hs
 simp only [Extern.Bytes.bytesOf, Sem.run_bind, Sem.run_pure, h1, h2, Result.andThen] at hs ⊢
 exact hs
end Go.Adm
namespace Go.Proofs.Ytfakjamocpamiaa
open Go Go.RowKit Go.Adm

set_option maxHeartbeats 800000 in
theorem bytesCompare_any (w : World) (a b : Addr) (c c' : Nat) (x y : List UInt8) (h1 : x.length = 32) (h2 : y.length = 32) (hx : ∀ j u, (x.map bv)[j]? = some u → w.cell? (a.add j) = some u) (hy : ∀ j u, (y.map bv)[j]? = some u → w.cell? (b.add j) = some u) :
  Calls Try.prog 77 #[.slice (some a) 32 c, .slice (some b) 32 c'] w fun e w' => e = .returned (.int .i64 (Lib.compareBytes x y)) ∧ w' = w := by
 have h := run_cmpBytes (P := Try.prog) w a b c c' x y hx hy
 rw [h1, h2] at h
 go_enter Try.func77, Try.ntmps77
 go_wp2_with fail
 rw [run_callFunc_extern Try.func98 (by kernel_rfl) (by kernel_rfl) (by kernel_rfl) (e := Extern.BytealgCompare.compare) (by kernel_rfl), h]
 go_wp2
 go_ret
 exact ⟨rfl, rfl⟩

end Go.Proofs.Ytfakjamocpamiaa
set_option linter.unusedSimpArgs false
set_option linter.unusedVariables false
set_option maxRecDepth 100000
namespace Go.Adm
open Go Go.RowKit
theorem Cells.sub {w : World} {g : Nat} {t : TypeId} {cs vs : List Value} (h : Cells w g t cs) (o : Nat) (hd : ∀ j u, vs[j]? = some u → cs[o + j]? = some u) : ∀ j u, vs[j]? = some u → w.cell? ((⟨g, o, none⟩ : Addr).add j) = some u := fun j u hu => by
 have h1 := hd j u hu
 rw [add_lit]
 rw [List.getElem?_eq_some_iff] at h1
 obtain ⟨h2, h3⟩ := h1
 rw [Cells.cell h h2, h3]
theorem Els.elem {α : Type} {w : World} {B n size : Nat} {A : Option Addr} {f : α → List Value} {l : List α} (h : Els w B size A n (l.map f)) {k : Nat} (hk : k < l.length) :
  ∃ ad, A = some ad ∧ ad.block < B ∧ ∀ j u, (f l[k])[j]? = some u → w.cell? ((ad.add (k * size)).add j) = some u := by
 obtain ⟨ad, e, hb, hc⟩ := h.at_ (k := k) (by rw [List.length_map]; exact hk)
 rw [List.getElem_map] at hc
 exact ⟨ad, e, hb, hc⟩
/-- a blob as it lies in memory: its digest, where its data are, its data -/
structure Bl where
 d : List UInt8
 A : Option Addr
 n : Nat
 c : Nat
 b : List UInt8
def blC (x : Bl) : List Value := x.d.map bv ++ [.slice x.A x.n x.c]
def blZ : List Value := List.replicate 32 (Value.int .u8 0) ++ [.slice none 0 0]
def z32 : List UInt8 := List.replicate 32 0
structure BlOk (w : World) (B : Nat) (x : Bl) : Prop where
 d32 : x.d.length = 32
 rd : Rd w B 1 x.A x.n (x.b.map bv)
 nc : x.n ≤ x.c
 cm : x.c ≤ maxLen
theorem BlOk.len {w : World} {B : Nat} {x : Bl} (h : BlOk w B x) : x.b.length = x.n := by have := h.rd.len; simpa using this
theorem BlOk.keep {w w' : World} {B : Nat} {x : Bl} (h : BlOk w B x) (hk : ∀ p : Addr, p.block < B → w'.cell? p = w.cell? p) : BlOk w' B x := ⟨h.d32, h.rd.keep hk, h.nc, h.cm⟩
theorem BlOk.mono {w : World} {B B' : Nat} {x : Bl} (h : BlOk w B x) (hB : B ≤ B') : BlOk w B' x := ⟨h.d32, h.rd.mono hB, h.nc, h.cm⟩
/-- a slice of blobs -/
structure Blobs (w : World) (B : Nat) (A : Option Addr) (n : Nat) (l : List Bl) : Prop where
 els : Els w B 33 A n (l.map blC)
 each : ∀ x ∈ l, BlOk w B x
 len : l.length = n
theorem Blobs.keep {w w' : World} {B n : Nat} {A : Option Addr} {l : List Bl} (h : Blobs w B A n l) (hk : ∀ p : Addr, p.block < B → w'.cell? p = w.cell? p) : Blobs w' B A n l :=
 ⟨⟨h.els.rd.keep hk, h.els.each, h.els.len⟩, fun x hx => (h.each x hx).keep hk, h.len⟩
theorem Blobs.mono {w : World} {B B' n : Nat} {A : Option Addr} {l : List Bl} (h : Blobs w B A n l) (hB : B ≤ B') : Blobs w B' A n l :=
 ⟨h.els.mono hB, fun x hx => (h.each x hx).mono hB, h.len⟩
def Low.blobs (B : Nat) (A : Option Addr) (n : Nat) (l : List Bl) : Low := ⟨B, fun w => Blobs w B A n l, fun _ _ hk h => h.keep hk⟩
/-- the first blob with a digest -/
def lookB (l : List Bl) (d : List UInt8) : Option Bl := l.find? fun x => decide (x.d = d)
def got (o : Option Bl) : Value := match o with
 | none => .tuple #[.slice none 0 0, .bool false]
 | some x => .tuple #[.slice x.A x.n x.c, .bool true]
end Go.Adm
namespace Go.Proofs.Ytfakjamocpamiaa
open Go Go.RowKit Go.Adm

theorem eq_dg (w : World) (x y : List UInt8) (hx : x.length = 32) (hy : y.length = 32) : (binOp .eql 37 (.agg (x.map bv).toArray) (.agg (y.map bv).toArray)).run Try.prog w = .ok (.bool (decide (x = y))) w :=
 run_eq_deep w 2 37 (by decide) (by kernel_rfl) (by simp only [Value.formed, Try.underlying37, List.size_toArray, List.length_map, hx]; kernel_rfl) (by simp only [Value.formed, Try.underlying37, List.size_toArray, List.length_map, hy]; kernel_rfl)
  (kl_bytes Try.underlying37 Try.underlying5 (by kernel_rfl) (by kernel_rfl) x hx) (kl_bytes Try.underlying37 Try.underlying5 (by kernel_rfl) (by kernel_rfl) y hy) _ (by
   rw [decide_eq_true_eq]
   exact ⟨fun h => by rw [h], map_bl_inj⟩)

end Go.Proofs.Ytfakjamocpamiaa
set_option linter.unusedSimpArgs false
set_option linter.unusedVariables false
set_option maxRecDepth 100000
namespace Go.Adm
open Go Go.RowKit
theorem lessD_nil (y : UInt8) (ys : List UInt8) : lessD [] (y :: ys) = true := rfl
theorem lessD_none : ∀ x : List UInt8, lessD x [] = false
 | [] => rfl
 | _ :: _ => rfl
theorem lessD_cons (a b : UInt8) (x y : List UInt8) : lessD (a :: x) (b :: y) = true ↔ a < b ∨ (a = b ∧ lessD x y = true) := by
 unfold lessD
 rw [show Lib.compareBytes (a :: x) (b :: y) = if a < b then -1 else if b < a then 1 else Lib.compareBytes x y from rfl]
 by_cases h1 : a < b
 ·rw [if_pos h1]; exact ⟨fun _ => Or.inl h1, fun _ => rfl⟩
 ·rw [if_neg h1]
  by_cases h2 : b < a
  ·rw [if_pos h2]
   refine ⟨fun h => by simp at h, fun h => ?_⟩
   rcases h with h | h
   ·exact absurd h h1
   ·rw [h.1] at h2; exact absurd h2 (UInt8.lt_irrefl b)
  ·rw [if_neg h2]
   have h3 : a = b := by
    have h4 : ¬ a.toNat < b.toNat := fun h => h1 (UInt8.lt_iff_toNat_lt.2 h)
    have h5 : ¬ b.toNat < a.toNat := fun h => h2 (UInt8.lt_iff_toNat_lt.2 h)
    exact UInt8.toNat_inj.1 (by omega)
   exact ⟨fun h => Or.inr ⟨h3, h⟩, fun h => by
    rcases h with h | h
    ·exact absurd h h1
    ·exact h.2⟩
theorem lessD_irrefl (x : List UInt8) : lessD x x = false := by
 unfold lessD
 rw [cmp_same]; rfl
theorem lessD_trans : ∀ {x y z : List UInt8}, lessD x y = true → lessD y z = true → lessD x z = true
 | _, _, [], _, h => by rw [lessD_none] at h; cases h
 | _, [], _ :: _, h, _ => by rw [lessD_none] at h; cases h
 | [], _ :: _, _ :: _, _, _ => rfl
 | a :: x, b :: y, c :: z, h1, h2 => by
  rw [lessD_cons] at h1 h2 ⊢
  rcases h1 with h1 | ⟨rfl, h1⟩
  ·rcases h2 with h2 | ⟨rfl, h2⟩
   ·exact Or.inl (UInt8.lt_trans h1 h2)
   ·exact Or.inl h1
  ·rcases h2 with h2 | ⟨rfl, h2⟩
   ·exact Or.inl h2
   ·exact Or.inr ⟨rfl, lessD_trans h1 h2⟩
theorem lessD_total : ∀ {x y : List UInt8}, lessD x y = false → lessD y x = false → x = y
 | [], [], _, _ => rfl
 | [], _ :: _, h, _ => by rw [lessD_nil] at h; cases h
 | _ :: _, [], _, h => by rw [lessD_nil] at h; cases h
 | a :: x, b :: y, h1, h2 => by
  have h3 : ¬ (a < b ∨ (a = b ∧ lessD x y = true)) := fun h => by rw [(lessD_cons a b x y).2 h] at h1; cases h1
  have h4 : ¬ (b < a ∨ (b = a ∧ lessD y x = true)) := fun h => by rw [(lessD_cons b a y x).2 h] at h2; cases h2
  have h5 : a = b := by
   have h6 : ¬ a.toNat < b.toNat := fun h => h3 (Or.inl (UInt8.lt_iff_toNat_lt.2 h))
   have h7 : ¬ b.toNat < a.toNat := fun h => h4 (Or.inl (UInt8.lt_iff_toNat_lt.2 h))
   exact UInt8.toNat_inj.1 (by omega)
  subst h5
  have h8 : lessD x y = false := by
   cases hq : lessD x y with
   | true => exact absurd (Or.inr ⟨rfl, hq⟩) h3
   | false => rfl
  have h9 : lessD y x = false := by
   cases hq : lessD y x with
   | true => exact absurd (Or.inr ⟨rfl, hq⟩) h4
   | false => rfl
  rw [lessD_total h8 h9]
theorem lessD_cmp {x y : List UInt8} : Lib.compareBytes x y = 0 ↔ x = y := by
 refine ⟨fun h => ?_, fun h => by rw [h, cmp_same]⟩
 induction x generalizing y with
 | nil =>
  cases y with
  | nil => rfl
  | cons b y => exact absurd h (by rw [show Lib.compareBytes [] (b :: y) = -1 from rfl]; decide)
 | cons a x ih =>
  cases y with
  | nil => exact absurd h (by rw [show Lib.compareBytes (a :: x) [] = 1 from rfl]; decide)
  | cons b y =>
   rw [show Lib.compareBytes (a :: x) (b :: y) = if a < b then -1 else if b < a then 1 else Lib.compareBytes x y from rfl] at h
   by_cases h1 : a < b
   ·rw [if_pos h1] at h; exact absurd h (by decide)
   ·rw [if_neg h1] at h
    by_cases h2 : b < a
    ·rw [if_pos h2] at h; exact absurd h (by decide)
    ·rw [if_neg h2] at h
     have h4 : ¬ a.toNat < b.toNat := fun h => h1 (UInt8.lt_iff_toNat_lt.2 h)
     have h5 : ¬ b.toNat < a.toNat := fun h => h2 (UInt8.lt_iff_toNat_lt.2 h)
     rw [UInt8.toNat_inj.1 (show a.toNat = b.toNat by omega), ih h]
end Go.Adm

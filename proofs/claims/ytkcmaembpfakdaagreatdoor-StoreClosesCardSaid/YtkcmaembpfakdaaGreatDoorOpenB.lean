/- Opening slices of bytes, slices of these, and stores. -/
import Derived.Test.YtkcmaembpfakdaaGreatDoorOpen
import Derived.Test.YtkcmaembpfakdaaGreatDoorSto9
import Derived.OpenShut
import Derived.ChangeSlices
set_option linter.unusedSimpArgs false
set_option linter.unusedVariables false
set_option maxRecDepth 100000
namespace Go.Adm
open Go Go.RowKit Go.ChangeShapes Go.WideShapes Go.Deep

section
variable {H : Type} {enc : TypeId × Value → H} {P : Program} {w : World} {base : Nat} {spare : Nat → Bool} {held : Bool}
theorem trod_bytes {t e : TypeId} {n fuel : Nat} {cs : List Value} {x : DataW H × List MemPlace} (ht : P.underlying t = some (.array n e)) (he : P.underlying e = some (.int .u8)) (hce : P.cellsOf e = 1) (hct : P.cellsOf t = n)
    (h : DataW.trod enc P w base spare held fuel t cs = some x) : ∃ l : List UInt8, cs = l.map bv ∧ l.length = n := by
  obtain ⟨xs, m, _, rfl, hl, hx, hi⟩ := DataW.trod_array ht h
  rw [hct] at hl
  have key : ∀ i, i < n → ∃ b : UInt8, cs[i]? = some (bv b) := fun i hin => by
    have h1 := hi i hin
    rw [hce, Nat.mul_one, List.getElem?_eq_getElem (by omega)] at h1
    obtain ⟨a, e1, _, hw⟩ := DataW.trod_int he h1
    have h2 : 0 ≤ a ∧ a ≤ 255 := by
      have h3 : IntKind.u8.min = 0 := rfl
      have h4 : IntKind.u8.max = 255 := rfl
      simp [Lit.wf, h3, h4] at hw
      omega
    refine ⟨UInt8.ofNat a.toNat, ?_⟩
    rw [List.drop_eq_getElem_cons (by omega), List.take_succ_cons, List.take_zero] at e1
    injection e1 with e1 _
    rw [List.getElem?_eq_getElem (by omega), e1]
    unfold bv
    rw [UInt8.toNat_ofNat']
    have : ((a.toNat % 2 ^ 8 : Nat) : Int) = a := by omega
    rw [this]
  obtain ⟨f, hf⟩ := choose_lt key
  refine ⟨(List.range n).map f, ?_, by simp⟩
  apply List.ext_getElem?
  intro i
  rw [List.getElem?_map, List.getElem?_map]
  by_cases h1 : i < n
  · rw [List.getElem?_range h1, hf i h1]; rfl
  · rw [List.getElem?_eq_none (by omega), List.getElem?_eq_none (by simp; omega)]; rfl
theorem rd_flat {size : Nat} {ad : Addr} : ∀ (es : List (List Value)) (k : Nat), (∀ e ∈ es, e.length = size) → (∀ i (hi : i < es.length) r u, es[i][r]? = some u → w.cell? ((ad.add ((k + i) * size)).add r) = some u) →
    ∀ j u, es.flatten[j]? = some u → w.cell? ((ad.add (k * size)).add j) = some u
  | [], _, _, _, j, u, h => by simp at h
  | e :: es, k, he, hc, j, u, h => by
    have hl := he e (by simp)
    rw [List.flatten_cons] at h
    by_cases hj : j < size
    · rw [List.getElem?_append_left (by omega)] at h
      have := hc 0 (by simp) j u h
      rwa [Nat.add_zero] at this
    · rw [List.getElem?_append_right (by omega), hl] at h
      have := rd_flat es (k + 1) (fun x hx => he x (by simp [hx])) (fun i hi r u hu => by
        have := hc (i + 1) (by simpa using hi) r u (by simpa using hu)
        rwa [show k + (i + 1) = k + 1 + i from by omega] at this) (j - size) u h
      rw [add_add] at this ⊢
      rwa [show (k + 1) * size + (j - size) = k * size + j from by rw [Nat.add_mul, Nat.one_mul]; omega] at this
/-- a slice of elements that are read one by one -/
theorem trod_els {α : Type} [Inhabited α] (f : α → List Value) (ok : α → Prop) {t u : TypeId} {sz fuel : Nat} {v : Value} {x : DataW H × List MemPlace} (hsz : 0 < sz) (ht : P.underlying t = some (.slice u)) (hcu : P.cellsOf u = sz) (hbu : 0 < P.bytesOf u)
    (hel : ∀ fuel cs x, Small P u x.1 → cs.length = sz → DataW.trod enc P w base (fun _ => true) held fuel u cs = some x → ∃ a, cs = f a ∧ ok a) (hlen : ∀ a, ok a → (f a).length = sz)
    (h : DataW.trod enc P w base (fun _ => true) held fuel t [v] = some x) (hs : Small P t x.1) :
    ∃ (A : Option Addr) (n c : Nat) (l : List α), v = .slice A n c ∧ n ≤ c ∧ l.length = n ∧ (∀ y ∈ l, ok y) ∧ Els w w.heap.size sz A n (l.map f) := by
  rcases open_slice ht h with ⟨hcs, _⟩ | ⟨a, len, cap, m, n, D, Pl, hcs, _, hl, hm, hmm, hxx, hx⟩
  · injection hcs with hv _
    exact ⟨none, 0, 0, [], hv, Nat.le_refl _, rfl, by simp, Els.nil⟩
  · injection hcs with hv _
    simp only [if_true] at hmm
    subst hmm
    subst hxx
    rw [hcu] at hx
    have key : ∀ i, i < len → ∃ y : α, ok y ∧ ∀ r v, (f y)[r]? = some v → w.cell? ((a.add (i * sz)).add r) = some v := fun i hi => by
      obtain ⟨cs', h1, h2⟩ := hx i (by omega)
      obtain ⟨_, h4, h3⟩ := World.cells?_some h1
      have hsm : Small P u (D i) := hs.elem ht (List.mem_append.2 (.inl (List.mem_map.2 ⟨i, List.mem_range.2 hi, rfl⟩)))
      obtain ⟨y, rfl, hy⟩ := hel n cs' (D i, Pl i) hsm h4 h2
      refine ⟨y, hy, fun r v hv => ?_⟩
      rw [h3 r (by rw [List.getElem?_eq_some_iff] at hv; obtain ⟨h5, _⟩ := hv; omega)]
      exact hv
    obtain ⟨g, hg⟩ := choose_lt key
    have hlg : ∀ y ∈ (List.range len).map g, ok y := fun y hy => by
      obtain ⟨i, hi, rfl⟩ := List.mem_map.1 hy
      exact (hg i (by simpa using hi)).1
    have hle : ∀ e ∈ ((List.range len).map g).map f, e.length = sz := fun e he => by
      obtain ⟨z, hz, rfl⟩ := List.mem_map.1 he
      exact hlen z (hlg z hz)
    refine ⟨some a, len, m, (List.range len).map g, hv, hl, by simp, hlg, ⟨⟨?_, fun hn => ?_⟩, hle, by simp⟩⟩
    · rw [flat_len (size := sz) hle]
      simp
    · have hlen0 : 0 < len := by
        rcases Nat.eq_zero_or_pos len with h0 | h0
        · subst h0; simp at hn
        · exact h0
      have h0 := hg 0 hlen0
      have hf0 := hlen _ h0.1
      have h1 := h0.2 0 ((f (g 0))[0]'(by omega)) (List.getElem?_eq_getElem (by omega))
      have h2 := World.block_lt_of_cell? w _ h1
      rw [add_block, add_block] at h2
      refine ⟨a, rfl, h2, fun j v hv => ?_⟩
      have h3 := rd_flat (w := w) (size := sz) (ad := a) (((List.range len).map g).map f) 0 hle (fun i hi r v hv => by
          have hi' : i < len := by simpa using hi
          rw [Nat.zero_add]
          refine (hg i hi').2 r v ?_
          simpa using hv) j v hv
      rw [add_add, Nat.zero_mul, Nat.zero_add] at h3
      exact h3
theorem Small.fst {u t0 : TypeId} {fs : Array Field} {ts : List TypeId} {d0 : DataW H} {r : List (DataW H)} (hu : P.underlying u = some (.struct fs)) (hts : fs.toList.map (·.type) = t0 :: ts) (h : Small P u (.agg (d0 :: r))) : Small P t0 d0 := fun x hx => by
  refine h x ?_
  simp only [DataW.weights, hu, hts, DataW.weightsEach, List.mem_append]
  exact .inl hx
theorem Small.snd {u t0 t1 : TypeId} {fs : Array Field} {ts : List TypeId} {d0 d1 : DataW H} {r : List (DataW H)} (hu : P.underlying u = some (.struct fs)) (hts : fs.toList.map (·.type) = t0 :: t1 :: ts) (h : Small P u (.agg (d0 :: d1 :: r))) : Small P t1 d1 := fun x hx => by
  refine h x ?_
  simp only [DataW.weights, hu, hts, DataW.weightsEach, List.mem_append]
  exact .inr (.inl hx)
def ub (z : Int) : UInt8 := UInt8.ofNat z.toNat
theorem ub_bv {z : Int} (h : (Lit.int .u8 z).wf = true) : Value.int .u8 z = bv (ub z) := by
  have h2 : 0 ≤ z ∧ z ≤ 255 := by
    have h3 : IntKind.u8.min = 0 := rfl
    have h4 : IntKind.u8.max = 255 := rfl
    simp [Lit.wf, h3, h4] at h
    omega
  unfold bv ub
  rw [UInt8.toNat_ofNat']
  have : ((z.toNat % 2 ^ 8 : Nat) : Int) = z := by omega
  rw [this]
/-- a slice of bytes -/
theorem open_bs {t e : TypeId} {fuel : Nat} {v : Value} {x : DataW H × List MemPlace} (ht : P.underlying t = some (.slice e)) (he : P.underlying e = some (.int .u8)) (hc : P.cellsOf e = 1) (hbe : 0 < P.bytesOf e)
    (h : DataW.trod enc P w base (fun _ => true) held fuel t [v] = some x) (hs : Small P t x.1) :
    ∃ (A : Option Addr) (c : Nat) (b : List UInt8), v = .slice A b.length c ∧ b.length ≤ c ∧ c ≤ 140737488351232 ∧ Rd w w.heap.size 1 A b.length (b.map bv) := by
  rcases open_ints ht he hc h with ⟨hcs, hx⟩ | ⟨a, len, cap, zs, hcs, _, hl, hm, hz, hx, hcell, hws⟩
  · injection hcs with hv _
    exact ⟨none, 0, [], hv, Nat.le_refl _, by decide, Rd.nil⟩
  · injection hcs with hv _
    simp only [if_true] at hz
    subst hx
    have hcap := hs.cap ht hbe
    simp only [lits, List.length_map, List.length_take, List.length_drop] at hcap
    have hln : ((zs.take len).map ub).length = len := by rw [List.length_map, List.length_take]; omega
    refine ⟨some a, cap, (zs.take len).map ub, by rw [hln]; exact hv, by rw [hln]; exact hl, by omega, ?_⟩
    rw [hln]
    refine ⟨by rw [List.length_map, hln]; omega, fun hn => ?_⟩
    refine ⟨a, rfl, lt_of_cell (hcell 0 (by omega)), fun j u hu => ?_⟩
    have hj : j < len := by
      have := (List.getElem?_eq_some_iff.1 hu).1
      rw [List.length_map, hln] at this; exact this
    rw [hcell j (by omega)]
    rw [List.getElem?_map, List.getElem?_map, List.getElem?_take_of_lt hj, List.getElem?_eq_getElem (by omega)] at hu
    simp only [Option.map_some, Option.some.injEq] at hu
    rw [← hu]
    have hw := hws zs[j] (List.getElem_mem (by omega))
    rw [← ub_bv hw]
    simp [List.getD, show j < zs.length by omega]
/-- a slice of slices of bytes -/
theorem open_parts {t u e : TypeId} {fuel : Nat} {v : Value} {x : DataW H × List MemPlace} (ht : P.underlying t = some (.slice u)) (hu : P.underlying u = some (.slice e)) (he : P.underlying e = some (.int .u8)) (hcu : P.cellsOf u = 1) (hce : P.cellsOf e = 1) (hbu : 0 < P.bytesOf u) (hbe : 0 < P.bytesOf e)
    (h : DataW.trod enc P w base (fun _ => true) held fuel t [v] = some x) (hs : Small P t x.1) :
    ∃ A n c ps, v = .slice A n c ∧ n ≤ c ∧ c ≤ 140737488351232 ∧ Parts w w.heap.size A n ps := by
  rcases open_slice1 ht hcu h with ⟨hcs, hx⟩ | ⟨a, len, cap, m, n, V, D, Pl, hcs, _, hl, hm, hmm, hx, hcell⟩
  · injection hcs with hv _
    exact ⟨none, 0, 0, [], hv, Nat.le_refl _, by decide, [], Rd.nil, .nil⟩
  · injection hcs with hv _
    simp only [if_true] at hmm
    rw [hmm] at hx hcell
    clear hmm
    subst hx
    have hcap := hs.cap ht hbu
    simp only [List.length_map, List.length_range] at hcap
    have hrow : ∀ i, i < len → ∃ b : List UInt8, BytesAt w w.heap.size (V i) b := fun i hi => by
      obtain ⟨_, htr⟩ := hcell i (by omega)
      have hsm : Small P u (D i) := hs.elem ht (List.mem_append.2 (.inl (List.mem_map.2 ⟨i, List.mem_range.2 hi, rfl⟩)))
      obtain ⟨A, c, b, h1, h2, h3, h4⟩ := open_bs hu he hce hbe htr hsm
      exact ⟨b, A, c, h1, h2, Nat.le_trans h3 (by decide), h4⟩
    obtain ⟨R, hR⟩ := choose_lt hrow
    refine ⟨some a, len, cap, (List.range len).map R, hv, hl, by omega, (List.range len).map V, ⟨by simp, fun hn => ?_⟩, ?_⟩
    · refine ⟨a, rfl, lt_of_cell (hcell 0 (by omega)).1, fun j u hu => ?_⟩
      rw [List.getElem?_map, Option.map_eq_some_iff] at hu
      obtain ⟨i, hi, rfl⟩ := hu
      obtain ⟨hi1, hi2⟩ := List.getElem?_eq_some_iff.1 hi
      simp at hi1 hi2
      subst hi2
      exact (hcell j (by omega)).1
    · have key : ∀ L : List Nat, (∀ i ∈ L, i < len) → All2 (BytesAt w w.heap.size) (L.map V) (L.map R) := by
        intro L
        induction L with
        | nil => intro _; exact .nil
        | cons i L ih => intro hL; exact .cons (hR i (hL i (by simp))) (ih fun j hj => hL j (by simp [hj]))
      exact key _ fun i hi => List.mem_range.1 hi
instance : Inhabited Bl := ⟨⟨[], none, 0, 0, []⟩⟩
end
end Go.Adm
namespace Go.Proofs.YtkcmaembpfakdaaGreatDoor
open Go Go.RowKit Go.Adm Go.ChangeShapes Go.WideShapes Go.Deep
section
variable {H : Type} {enc : TypeId × Value → H} {w : World} {base b0 : Nat} {held : Bool} {r : Reach} {v : Value} {d : DataW H} {ps : List MemPlace}
theorem open_bytes (hval : Value.okWide Tryz.prog w r b0 36 v) (hd : DataW.Trod enc Tryz.prog w base (fun _ => true) held 36 v d ps) (hs : Small Tryz.prog 36 d) :
    ∃ (A : Option Addr) (c : Nat) (b : List UInt8), v = .slice A b.length c ∧ b.length ≤ c ∧ c ≤ 140737488351232 ∧ Rd w w.heap.size 1 A b.length (b.map bv) := by
  obtain ⟨x, l, k, rfl⟩ := okWide_slice Tryz.underlying36 hval
  obtain ⟨fu, f⟩ := hd
  exact open_bs Tryz.underlying36 Tryz.underlying5 (by kernel_rfl) (of_decide_eq_true (by kernel_rfl)) f hs
theorem el_blob (fuel : Nat) (cs : List Value) (x : DataW H × List MemPlace) (hs : Small Tryz.prog 51 x.1) (hl : cs.length = 33) (h : DataW.trod enc Tryz.prog w base (fun _ => true) held fuel 51 cs = some x) : ∃ e : Bl, cs = blC e ∧ (BlOk w w.heap.size e ∧ e.n ≤ 140737488351232) := by
  obtain ⟨y0, y1, n, rfl, _, h0, h1⟩ := trod_struct2 Tryz.underlying51 h
  obtain ⟨l, e0, hl2⟩ := trod_bytes Tryz.underlying32 Tryz.underlying5 (by kernel_rfl) (by kernel_rfl) h0
  have hsm := (hs.snd Tryz.underlying51 rfl)
  have k32 : Tryz.prog.cellsOf 32 = 32 := by kernel_rfl
  have k1 : Tryz.prog.cellsOf 36 = 1 := by kernel_rfl
  change (cs.drop 0).take (Tryz.prog.cellsOf 32) = _ at e0
  change DataW.trod enc Tryz.prog w base (fun _ => true) held n 36 ((cs.drop 32).take (Tryz.prog.cellsOf 36)) = some y1 at h1
  rw [k32, List.drop_zero] at e0
  rw [k1, List.drop_eq_getElem_cons (by omega), List.take_succ_cons, List.take_zero] at h1
  obtain ⟨A, c, b, e1, h2, h3, h4⟩ := open_bs Tryz.underlying36 Tryz.underlying5 (by kernel_rfl) (of_decide_eq_true (by kernel_rfl)) h1 hsm
  refine ⟨⟨l, A, b.length, c, b⟩, ?_, ⟨hl2, h4, h2, Nat.le_trans h3 (by decide)⟩, by show b.length ≤ _; omega⟩
  have p1 := List.take_append_drop 32 cs
  have p2 : cs.drop 32 = [cs[32]] := by
    rw [List.drop_eq_getElem_cons (by omega), List.drop_of_length_le (by omega)]
  rw [← p1, e0, p2, e1]
  rfl
theorem open_blobs (hval : Value.okWide Tryz.prog w r b0 22 v) (hd : DataW.Trod enc Tryz.prog w base (fun _ => true) held 22 v d ps) (hs : Small Tryz.prog 22 d) :
    ∃ A n c ls, v = .slice A n c ∧ n ≤ c ∧ c ≤ 140737488351232 ∧ Blobs w w.heap.size A n ls ∧ ∀ y ∈ ls, y.n ≤ 140737488351232 := by
  obtain ⟨x, l, k, rfl⟩ := okWide_slice Tryz.underlying22 hval
  obtain ⟨fu, f⟩ := hd
  have hcap : l ≤ k ∧ k ≤ 140737488351232 := by
    rcases open_slice Tryz.underlying22 f with ⟨hcs, _⟩ | ⟨a, len, cap, m, n, D, Pl, hcs, _, hl, hm, hmm, hxx, hx⟩
    · injection hcs with hv _
      injection hv with e1 e2 e3
      subst e1 e2 e3
      exact ⟨Nat.le_refl _, by decide⟩
    · injection hcs with hv _
      injection hv with e1 e2 e3
      subst e1 e2 e3
      simp only [if_true] at hmm
      subst hmm
      have hxd := congrArg Prod.fst hxx
      change d = _ at hxd
      subst hxd
      have hc := hs.cap Tryz.underlying22 (of_decide_eq_true (by kernel_rfl))
      simp only [List.length_map, List.length_range] at hc
      exact ⟨hl, by omega⟩
  obtain ⟨A, n, c, ls, e, hnc, hln, hok, hE⟩ := trod_els (P := Tryz.prog) (w := w) blC (fun e => BlOk w w.heap.size e ∧ e.n ≤ 140737488351232) (by decide) Tryz.underlying22 (by kernel_rfl) (of_decide_eq_true (by kernel_rfl)) (fun fu cs x h1 h2 h3 => el_blob fu cs x h1 h2 h3) (fun a h => blC_len h.1.d32) f hs
  injection e with e1 e2 e3
  subst e1 e2 e3
  exact ⟨x, l, k, ls, rfl, hcap.1, hcap.2, ⟨hE, fun y hy => (hok y hy).1, hln⟩, fun y hy => (hok y hy).2⟩
end
end Go.Proofs.YtkcmaembpfakdaaGreatDoor

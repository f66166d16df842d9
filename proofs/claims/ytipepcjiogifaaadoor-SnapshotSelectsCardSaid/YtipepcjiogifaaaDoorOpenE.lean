/- Opening slices of entries and of changes. -/
import Derived.Test.YtipepcjiogifaaaDoorOpen
import Derived.Test.YtipepcjiogifaaaDoorSnapMem
import Derived.OpenShut
set_option linter.unusedSimpArgs false
set_option linter.unusedVariables false
set_option maxRecDepth 100000
namespace Go.Adm
open Go Go.RowKit Go.ChangeShapes Go.WideShapes Go.Deep

section
variable {H : Type} {enc : TypeId × Value → H} {P : Program} {w : World} {base : Nat} {spare : Nat → Bool} {held : Bool}
theorem trod_bytes {t e : TypeId} {n fuel : Nat} {cs : List Value} {x : DataW H × List MemPlace} (ht : P.underlying t = some (.array n e)) (he : P.underlying e = some (.int .u8)) (hce : P.cellsOf e = 1) (hct : P.cellsOf t = n)
    (h : DataW.trod enc P w base spare held fuel t cs = some x) : ∃ l : List UInt8, cs = l.map bv ∧ l.length = n := by
  obtain ⟨xs, m, _, rfl, hl, hx, hi⟩ := DataW.trod_array ht h
  rw [hct] at hl
  have key : ∀ i, i < n → ∃ b : UInt8, cs[i]? = some (bv b) := fun i hin => by
    have h1 := hi i hin
    rw [hce, Nat.mul_one, List.getElem?_eq_getElem (by omega)] at h1
    obtain ⟨a, e1, _, hw⟩ := DataW.trod_int he h1
    have h2 : 0 ≤ a ∧ a ≤ 255 := by
      have h3 : IntKind.u8.min = 0 := rfl
      have h4 : IntKind.u8.max = 255 := rfl
      simp [Lit.wf, h3, h4] at hw
      omega
    refine ⟨UInt8.ofNat a.toNat, ?_⟩
    rw [List.drop_eq_getElem_cons (by omega), List.take_succ_cons, List.take_zero] at e1
    injection e1 with e1 _
    rw [List.getElem?_eq_getElem (by omega), e1]
    unfold bv
    rw [UInt8.toNat_ofNat']
    have : ((a.toNat % 2 ^ 8 : Nat) : Int) = a := by omega
    rw [this]
  obtain ⟨f, hf⟩ := choose_lt key
  refine ⟨(List.range n).map f, ?_, by simp⟩
  apply List.ext_getElem?
  intro i
  rw [List.getElem?_map, List.getElem?_map]
  by_cases h1 : i < n
  · rw [List.getElem?_range h1, hf i h1]; rfl
  · rw [List.getElem?_eq_none (by omega), List.getElem?_eq_none (by simp; omega)]; rfl
theorem rd_flat {size : Nat} {ad : Addr} : ∀ (es : List (List Value)) (k : Nat), (∀ e ∈ es, e.length = size) → (∀ i (hi : i < es.length) r u, es[i][r]? = some u → w.cell? ((ad.add ((k + i) * size)).add r) = some u) →
    ∀ j u, es.flatten[j]? = some u → w.cell? ((ad.add (k * size)).add j) = some u
  | [], _, _, _, j, u, h => by simp at h
  | e :: es, k, he, hc, j, u, h => by
    have hl := he e (by simp)
    rw [List.flatten_cons] at h
    by_cases hj : j < size
    · rw [List.getElem?_append_left (by omega)] at h
      have := hc 0 (by simp) j u h
      rwa [Nat.add_zero] at this
    · rw [List.getElem?_append_right (by omega), hl] at h
      have := rd_flat es (k + 1) (fun x hx => he x (by simp [hx])) (fun i hi r u hu => by
        have := hc (i + 1) (by simpa using hi) r u (by simpa using hu)
        rwa [show k + (i + 1) = k + 1 + i from by omega] at this) (j - size) u h
      rw [add_add] at this ⊢
      rwa [show (k + 1) * size + (j - size) = k * size + j from by rw [Nat.add_mul, Nat.one_mul]; omega] at this
/-- a slice of elements that are read one by one -/
theorem trod_els {α : Type} [Inhabited α] (f : α → List Value) (ok : α → Prop) {t u : TypeId} {sz fuel : Nat} {v : Value} {x : DataW H × List MemPlace} (hsz : 0 < sz) (ht : P.underlying t = some (.slice u)) (hcu : P.cellsOf u = sz) (hbu : 0 < P.bytesOf u)
    (hel : ∀ fuel cs x, Small P u x.1 → cs.length = sz → DataW.trod enc P w base (fun _ => true) held fuel u cs = some x → ∃ a, cs = f a ∧ ok a) (hlen : ∀ a, ok a → (f a).length = sz)
    (h : DataW.trod enc P w base (fun _ => true) held fuel t [v] = some x) (hs : Small P t x.1) :
    ∃ (A : Option Addr) (n c : Nat) (l : List α), v = .slice A n c ∧ n ≤ c ∧ l.length = n ∧ (∀ y ∈ l, ok y) ∧ Els w w.heap.size sz A n (l.map f) := by
  rcases open_slice ht h with ⟨hcs, _⟩ | ⟨a, len, cap, m, n, D, Pl, hcs, _, hl, hm, hmm, hxx, hx⟩
  · injection hcs with hv _
    exact ⟨none, 0, 0, [], hv, Nat.le_refl _, rfl, by simp, Els.nil⟩
  · injection hcs with hv _
    simp only [if_true] at hmm
    subst hmm
    subst hxx
    rw [hcu] at hx
    have key : ∀ i, i < len → ∃ y : α, ok y ∧ ∀ r v, (f y)[r]? = some v → w.cell? ((a.add (i * sz)).add r) = some v := fun i hi => by
      obtain ⟨cs', h1, h2⟩ := hx i (by omega)
      obtain ⟨_, h4, h3⟩ := World.cells?_some h1
      have hsm : Small P u (D i) := hs.elem ht (List.mem_append.2 (.inl (List.mem_map.2 ⟨i, List.mem_range.2 hi, rfl⟩)))
      obtain ⟨y, rfl, hy⟩ := hel n cs' (D i, Pl i) hsm h4 h2
      refine ⟨y, hy, fun r v hv => ?_⟩
      rw [h3 r (by rw [List.getElem?_eq_some_iff] at hv; obtain ⟨h5, _⟩ := hv; omega)]
      exact hv
    obtain ⟨g, hg⟩ := choose_lt key
    have hlg : ∀ y ∈ (List.range len).map g, ok y := fun y hy => by
      obtain ⟨i, hi, rfl⟩ := List.mem_map.1 hy
      exact (hg i (by simpa using hi)).1
    have hle : ∀ e ∈ ((List.range len).map g).map f, e.length = sz := fun e he => by
      obtain ⟨z, hz, rfl⟩ := List.mem_map.1 he
      exact hlen z (hlg z hz)
    refine ⟨some a, len, m, (List.range len).map g, hv, hl, by simp, hlg, ⟨⟨?_, fun hn => ?_⟩, hle, by simp⟩⟩
    · rw [flat_len (size := sz) hle]
      simp
    · have hlen0 : 0 < len := by
        rcases Nat.eq_zero_or_pos len with h0 | h0
        · subst h0; simp at hn
        · exact h0
      have h0 := hg 0 hlen0
      have hf0 := hlen _ h0.1
      have h1 := h0.2 0 ((f (g 0))[0]'(by omega)) (List.getElem?_eq_getElem (by omega))
      have h2 := World.block_lt_of_cell? w _ h1
      rw [add_block, add_block] at h2
      refine ⟨a, rfl, h2, fun j v hv => ?_⟩
      have h3 := rd_flat (w := w) (size := sz) (ad := a) (((List.range len).map g).map f) 0 hle (fun i hi r v hv => by
          have hi' : i < len := by simpa using hi
          rw [Nat.zero_add]
          refine (hg i hi').2 r v ?_
          simpa using hv) j v hv
      rw [add_add, Nat.zero_mul, Nat.zero_add] at h3
      exact h3
instance : Inhabited E := ⟨⟨ByteArray.empty, []⟩⟩
instance : Inhabited C := ⟨⟨ByteArray.empty, [], []⟩⟩
theorem Small.fst {u t0 : TypeId} {fs : Array Field} {ts : List TypeId} {d0 : DataW H} {r : List (DataW H)} (hu : P.underlying u = some (.struct fs)) (hts : fs.toList.map (·.type) = t0 :: ts) (h : Small P u (.agg (d0 :: r))) : Small P t0 d0 := fun x hx => by
  refine h x ?_
  simp only [DataW.weights, hu, hts, DataW.weightsEach, List.mem_append]
  exact .inl hx
end
end Go.Adm
namespace Go.Proofs.YtipepcjiogifaaaDoor
open Go Go.RowKit Go.Adm Go.ChangeShapes Go.WideShapes Go.Deep
section
variable {H : Type} {enc : TypeId × Value → H} {w : World} {base b0 : Nat} {held : Bool} {r : Reach} {v : Value} {d : DataW H} {ps : List MemPlace}
theorem el_entry (fuel : Nat) (cs : List Value) (x : DataW H × List MemPlace) (hs : Small Tryd.prog 50 x.1) (hl : cs.length = 33) (h : DataW.trod enc Tryd.prog w base (fun _ => true) held fuel 50 cs = some x) : ∃ e : E, cs = entC e ∧ E32 e := by
  obtain ⟨y0, y1, n, rfl, _, h0, h1⟩ := trod_struct2 Tryd.underlying50 h
  obtain ⟨s, e0, e1, _⟩ := DataW.trod_string Tryd.underlying9 h0
  obtain ⟨l, e2, hl2⟩ := trod_bytes Tryd.underlying40 Tryd.underlying5 (by kernel_rfl) (by kernel_rfl) h1
  have hsm := (hs.fst Tryd.underlying50 rfl)
  rw [e1] at hsm
  have hsz := hsm.str
  have k1 : Tryd.prog.cellsOf 9 = 1 := by kernel_rfl
  have k32 : Tryd.prog.cellsOf 40 = 32 := by kernel_rfl
  change (cs.drop 0).take (Tryd.prog.cellsOf 9) = _ at e0
  change (cs.drop 1).take (Tryd.prog.cellsOf 40) = _ at e2
  rw [k1, List.drop_zero] at e0
  rw [k32] at e2
  refine ⟨⟨s, l⟩, ?_, hl2, ?_⟩
  · have p1 := List.take_append_drop 1 cs
    have p3 : (cs.drop 1).length = 32 := by rw [List.length_drop, hl]
    have p4 : (cs.drop 1).take 32 = cs.drop 1 := List.take_of_length_le (by omega)
    rw [← p1, e0, ← p4, e2]
    rfl
  · have h9 : s.data.toList.length = s.size := Array.length_toList
    show s.size ≤ _
    omega
theorem open_ents (hval : Value.okWide Tryd.prog w r b0 22 v) (hd : DataW.Trod enc Tryd.prog w base (fun _ => true) held 22 v d ps) (hs : Small Tryd.prog 22 d) :
    ∃ (A : Option Addr) (n c : Nat) (l : List E), v = .slice A n c ∧ n ≤ c ∧ l.length = n ∧ (∀ y ∈ l, E32 y) ∧ Els w w.heap.size 33 A n (l.map entC) := by
  obtain ⟨x, l, k, rfl⟩ := okWide_slice Tryd.underlying22 hval
  obtain ⟨fu, f⟩ := hd
  exact trod_els entC E32 (by decide) Tryd.underlying22 (by kernel_rfl) (of_decide_eq_true (by kernel_rfl)) el_entry (fun a h => entC_len h) f hs
end
end Go.Proofs.YtipepcjiogifaaaDoor

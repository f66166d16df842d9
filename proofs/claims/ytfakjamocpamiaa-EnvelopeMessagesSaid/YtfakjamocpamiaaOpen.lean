/- Opening the arguments of a law, and closing a law whose call returns true and leaves old memory alone. -/
import Derived.Test.YtfakjamocpamiaaGen1
import Derived.SizedLaws
import Derived.Carry
set_option linter.unusedSimpArgs false
set_option linter.unusedVariables false
namespace Go.Adm
open Go Go.RowKit Go.ChangeShapes Go.WideShapes Go.Deep

section
variable {H : Type} {enc : TypeId × Value → H} {P : Program} {w : World} {base : Nat} {spare : Nat → Bool} {held : Bool}

/-- every weight of a datum is within the form's reach -/
def Small (P : Program) (t : TypeId) (d : DataW H) : Prop := ∀ x ∈ d.weights P t, x ≤ reachBytes
theorem Small.of_each {ts : List TypeId} {ds : List (DataW H)} (h : (DataW.weightsEach P ts ds).all (· ≤ reachBytes) = true) {j : Nat} {t : TypeId} {d : DataW H} (ht : ts[j]? = some t) (hd : ds[j]? = some d) : Small P t d := fun x hx => by
  have := List.all_eq_true.1 h x (DataW.weights_mem_each ht hd x hx)
  simpa using this
theorem weightsAll_mem {e : TypeId} {l : List (DataW H)} {d : DataW H} (hd : d ∈ l) {x : Nat} (hx : x ∈ d.weights P e) : x ∈ DataW.weightsAll P e l := by
  induction l with
  | nil => cases hd
  | cons a r ih =>
    simp only [DataW.weightsAll, List.mem_append]
    rcases List.mem_cons.1 hd with rfl | h
    · exact .inl hx
    · exact .inr (ih h)
theorem Small.elem {t e : TypeId} {elems sp : List (DataW H)} (ht : P.underlying t = some (.slice e)) (h : Small P t (.slice elems sp)) {d : DataW H} (hd : d ∈ elems ++ sp) : Small P e d := fun x hx => by
  refine h x ?_
  simp only [DataW.weights, ht, List.mem_cons, List.mem_append]
  right
  rcases List.mem_append.1 hd with h1 | h1
  · exact .inl (weightsAll_mem h1 hx)
  · exact .inr (weightsAll_mem h1 hx)
theorem Small.cap {t e : TypeId} {elems sp : List (DataW H)} (ht : P.underlying t = some (.slice e)) (hb : 0 < P.bytesOf e) (h : Small P t (.slice elems sp)) : elems.length + sp.length ≤ 140737488351232 := by
  have h1 := h _ (by simp only [DataW.weights, ht, List.mem_cons]; exact .inl rfl)
  have h2 := Nat.le_mul_of_pos_right (elems.length + sp.length) hb
  have h3 : reachBytes = 140737488351232 := by decide
  omega
theorem Small.str {t : TypeId} {l : List UInt8} (h : Small P t (.lit (.string l) : DataW H)) : l.length ≤ 140737488351232 := by
  have h1 := h _ (by simp only [DataW.weights, List.mem_cons]; exact .inl rfl)
  have h3 : reachBytes = 140737488351232 := by decide
  omega

theorem lt_of_cell {a : Addr} {j : Nat} {v : Value} (h : w.cell? (a.add j) = some v) : a.block < w.heap.size := by
  have := World.block_lt_of_cell? w _ h
  rwa [add_block] at this

/-- a slice of strings -/
theorem open_strs {t e : TypeId} {fuel : Nat} {v : Value} {x : DataW H × List MemPlace} (ht : P.underlying t = some (.slice e)) (he : P.underlying e = some .string) (hc : P.cellsOf e = 1) (hbe : 0 < P.bytesOf e)
    (h : DataW.trod enc P w base (fun _ => true) held fuel t [v] = some x) (hs : Small P t x.1) :
    ∃ A n c ss, v = .slice A n c ∧ n ≤ c ∧ c ≤ 140737488351232 ∧ Strs w w.heap.size A n ss := by
  rcases open_strings ht he hc h with ⟨hcs, hx⟩ | ⟨a, len, cap, ss, hcs, _, hl, hm, hz, hx, hcell, hws⟩
  · injection hcs with hv _
    exact ⟨none, 0, 0, [], hv, Nat.le_refl _, by decide, Rd.nil, by simp⟩
  · injection hcs with hv _
    simp only [if_true] at hz
    subst hx
    have hcap := hs.cap ht hbe
    rw [strs, strs, List.length_map, List.length_map, ← List.length_append, List.take_append_drop] at hcap
    refine ⟨some a, len, cap, ss.take len, hv, hl, by omega, ⟨by rw [List.length_map, List.length_take]; omega, fun hn => ?_⟩, fun s hss => ?_⟩
    · refine ⟨a, rfl, lt_of_cell (hcell 0 (by omega)), fun j u hu => ?_⟩
      rw [List.getElem?_map, Option.map_eq_some_iff] at hu
      obtain ⟨s, hs', rfl⟩ := hu
      have hj : j < len := by
        rcases Nat.lt_or_ge j len with h1 | h1
        · exact h1
        · rw [List.getElem?_take, if_neg (by omega)] at hs'; cases hs'
      rw [hcell j (by omega)]
      rw [List.getElem?_take_of_lt hj] at hs'
      simp [sv, List.getD, hs']
    · have h1 := (hs.elem ht (d := .lit (.string s.data.toList)) (by
        refine List.mem_append.2 (.inl ?_)
        rw [strs, List.mem_map]
        exact ⟨s, hss, rfl⟩)).str
      rw [Array.length_toList] at h1
      exact Nat.le_trans h1 (by decide)

/-- a slice of slices of strings -/
theorem open_lines {t u e : TypeId} {fuel : Nat} {v : Value} {x : DataW H × List MemPlace} (ht : P.underlying t = some (.slice u)) (hu : P.underlying u = some (.slice e)) (he : P.underlying e = some .string) (hcu : P.cellsOf u = 1) (hce : P.cellsOf e = 1) (hbu : 0 < P.bytesOf u) (hbe : 0 < P.bytesOf e)
    (h : DataW.trod enc P w base (fun _ => true) held fuel t [v] = some x) (hs : Small P t x.1) :
    ∃ A n c ls, v = .slice A n c ∧ n ≤ c ∧ c ≤ 140737488351232 ∧ Lines w w.heap.size A n ls := by
  rcases open_slice1 ht hcu h with ⟨hcs, hx⟩ | ⟨a, len, cap, m, n, V, D, Pl, hcs, _, hl, hm, hmm, hx, hcell⟩
  · injection hcs with hv _
    exact ⟨none, 0, 0, [], hv, Nat.le_refl _, by decide, rfl, by decide, [], Rd.nil, fun k hk => absurd hk (by simp)⟩
  · injection hcs with hv _
    simp only [if_true] at hmm
    rw [hmm] at hx hcell
    clear hmm
    subst hx
    have hcap := hs.cap ht hbu
    simp only [List.length_map, List.length_range] at hcap
    have hrow : ∀ i, i < len → ∃ p : (Option Addr × Nat) × List ByteArray, V i = .slice p.1.1 p.2.length p.1.2 ∧ p.2.length ≤ p.1.2 ∧ p.1.2 ≤ 140737488351232 ∧ Strs w w.heap.size p.1.1 p.2.length p.2 := fun i hi => by
      obtain ⟨_, htr⟩ := hcell i (by omega)
      have hsm : Small P u (D i) := hs.elem ht (List.mem_append.2 (.inl (List.mem_map.2 ⟨i, List.mem_range.2 hi, rfl⟩)))
      obtain ⟨A, n, c, ss, h1, h2, h3, h4⟩ := open_strs hu he hce hbe htr hsm
      have h5 := h4.len
      subst h5
      exact ⟨⟨⟨A, c⟩, ss⟩, h1, h2, h3, h4⟩
    obtain ⟨R, hR⟩ := choose_lt hrow
    refine ⟨some a, len, cap, (List.range len).map fun i => (R i).2, hv, hl, by omega, by simp, by omega, (List.range len).map V, ⟨by simp, fun hn => ?_⟩, fun k hk => ?_⟩
    · refine ⟨a, rfl, lt_of_cell (hcell 0 (by omega)).1, fun j u hu => ?_⟩
      rw [List.getElem?_map, Option.map_eq_some_iff] at hu
      obtain ⟨i, hi, rfl⟩ := hu
      obtain ⟨hi1, hi2⟩ := List.getElem?_eq_some_iff.1 hi
      simp at hi1 hi2
      subst hi2
      exact (hcell j (by omega)).1
    · simp only [List.length_map, List.length_range] at hk
      obtain ⟨h1, h2, h3, h4⟩ := hR k hk
      refine ⟨(R k).1.1, (R k).1.2, ?_, ?_, Nat.le_trans h3 (by decide), ?_⟩
      · simp [hk, h1]
      · simpa using h2
      · simpa using h4

/-- the arguments read as they did where nothing old has turned -/
theorem trodAll_below (hl : laidOutB P = true) {W W' : World} (hb : Below W.heap.size W W') : ∀ {ts : List TypeId} {vs : List Value} {ds : List (DataW H)} {ps : List MemPlace}, (∀ t ∈ ts, P.readableRec t = true ∧ t < P.types.size) →
    DataW.TrodAll enc P W 0 (fun _ => true) true ts vs ds ps → (∀ p ∈ ps, p.block < W.heap.size) → DataW.TrodAll enc P W' 0 (fun b => decide (b < W.heap.size)) true ts vs ds ps
  | [], [], [], _, _, h, _ => h
  | t :: ts, v :: vs, d :: ds, ps, hr, h, hlt => by
    obtain ⟨p, q, h1, h2, rfl⟩ := h
    exact ⟨p, q, Below.trod hl (hr t (by simp)).1 (hr t (by simp)).2 h1 hb (fun x hx => hlt x (by simp [hx])), trodAll_below hl hb (fun t ht => hr t (by simp [ht])) h2 (fun x hx => hlt x (by simp [hx])), rfl⟩
  | [], _ :: _, _, _, _, h, _ => h.elim
  | [], [], _ :: _, _, _, h, _ => h.elim
  | _ :: _, [], _, _, _, h, _ => h.elim
  | _ :: _, _ :: _, [], _, _, h, _ => h.elim

/-- A law's end: it returns true, and nothing old has turned. -/
theorem post_true {f : Func} {s : ChangeSpec} {W W' : World} {args : Array Value} {ds gs : List (DataW H)} {before : List MemPlace} {tb : TypeId} (hl : laidOutB P = true)
    (hW : DataW.Whole enc P f.params.toList s.vars false W args.toList ds gs before) (hv : s.vars = []) (hfn : s.fn H (ds ++ []) = { results := [.lit (.bool true)], args := ds }) (hrt : f.resultTypes = #[tb]) (htb : P.underlying tb = some .bool)
    (hrec : ∀ t ∈ f.params.toList, P.readableRec t = true ∧ t < P.types.size) (hb : Below W.heap.size W W') : s.post enc P f false true false false W args (.bool true) W' := by
  have hlt := hW.lt
  have hW' := hW
  obtain ⟨p, q, hA, hV, rfl, hfz, hnd⟩ := hW
  rw [hv] at hV
  obtain ⟨rfl, rfl⟩ := trodVars_none hV
  refine ⟨ds, [], p ++ [], [], p, [], hW', ?_, ?_, ?_, ?_, fun h => by cases h⟩
  · rw [hfn, hrt]
    exact trodAll_mk1 (shut_bool htb true)
  · rw [hfn]
    exact trodAll_below hl hb hrec hA (fun x hx => hlt x (by simp [hx]))
  · rw [hfn, hv]
    exact rfl
  · exact hb.frame _
end
end Go.Adm

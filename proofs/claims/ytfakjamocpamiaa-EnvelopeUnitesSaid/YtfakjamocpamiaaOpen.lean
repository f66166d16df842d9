/- Opening the arguments of a law, and closing a law whose call returns true and leaves old memory alone. -/
import Derived.Test.YtfakjamocpamiaaGen1
import Derived.SizedLaws
import Derived.Carry
set_option linter.unusedSimpArgs false
set_option linter.unusedVariables false
namespace Go.Adm
open Go Go.RowKit Go.ChangeShapes Go.WideShapes Go.Deep

section
variable {H : Type} {enc : TypeId × Value → H} {P : Program} {w : World} {base : Nat} {spare : Nat → Bool} {held : Bool}

/-- every weight of a datum is within the form's reach -/
def Small (P : Program) (t : TypeId) (d : DataW H) : Prop := ∀ x ∈ d.weights P t, x ≤ reachBytes
theorem Small.of_each {ts : List TypeId} {ds : List (DataW H)} (h : (DataW.weightsEach P ts ds).all (· ≤ reachBytes) = true) {j : Nat} {t : TypeId} {d : DataW H} (ht : ts[j]? = some t) (hd : ds[j]? = some d) : Small P t d := fun x hx => by
 have := List.all_eq_true.1 h x (DataW.weights_mem_each ht hd x hx)
 simpa using this
theorem weightsAll_mem {e : TypeId} {l : List (DataW H)} {d : DataW H} (hd : d ∈ l) {x : Nat} (hx : x ∈ d.weights P e) : x ∈ DataW.weightsAll P e l := by
 induction l with
 | nil => cases hd
 | cons a r ih =>
  simp only [DataW.weightsAll, List.mem_append]
  rcases List.mem_cons.1 hd with rfl | h
  ·exact .inl hx
  ·exact .inr (ih h)
theorem Small.elem {t e : TypeId} {elems sp : List (DataW H)} (ht : P.underlying t = some (.slice e)) (h : Small P t (.slice elems sp)) {d : DataW H} (hd : d ∈ elems ++ sp) : Small P e d := fun x hx => by
 refine h x ?_
 simp only [DataW.weights, ht, List.mem_cons, List.mem_append]
 right
 rcases List.mem_append.1 hd with h1 | h1
 ·exact .inl (weightsAll_mem h1 hx)
 ·exact .inr (weightsAll_mem h1 hx)
theorem Small.cap {t e : TypeId} {elems sp : List (DataW H)} (ht : P.underlying t = some (.slice e)) (hb : 0 < P.bytesOf e) (h : Small P t (.slice elems sp)) : elems.length + sp.length ≤ 140737488351232 := by
 have h1 := h _ (by simp only [DataW.weights, ht, List.mem_cons]; exact .inl rfl)
 have h2 := Nat.le_mul_of_pos_right (elems.length + sp.length) hb
 have h3 : reachBytes = 140737488351232 := by decide
 omega
theorem Small.str {t : TypeId} {l : List UInt8} (h : Small P t (.lit (.string l) : DataW H)) : l.length ≤ 140737488351232 := by
 have h1 := h _ (by simp only [DataW.weights, List.mem_cons]; exact .inl rfl)
 have h3 : reachBytes = 140737488351232 := by decide
 omega

theorem lt_of_cell {a : Addr} {j : Nat} {v : Value} (h : w.cell? (a.add j) = some v) : a.block < w.heap.size := by
 have := World.block_lt_of_cell? w _ h
 rwa [add_block] at this

/-- the arguments read as they did where nothing old has turned -/
theorem trodAll_below (hl : laidOutB P = true) {W W' : World} (hb : Below W.heap.size W W') : ∀ {ts : List TypeId} {vs : List Value} {ds : List (DataW H)} {ps : List MemPlace}, (∀ t ∈ ts, P.readableRec t = true ∧ t < P.types.size) →
  DataW.TrodAll enc P W 0 (fun _ => true) true ts vs ds ps → (∀ p ∈ ps, p.block < W.heap.size) → DataW.TrodAll enc P W' 0 (fun b => decide (b < W.heap.size)) true ts vs ds ps
 | [], [], [], _, _, h, _ => h
 | t :: ts, v :: vs, d :: ds, ps, hr, h, hlt => by
  obtain ⟨p, q, h1, h2, rfl⟩ := h
  exact ⟨p, q, Below.trod hl (hr t (by simp)).1 (hr t (by simp)).2 h1 hb (fun x hx => hlt x (by simp [hx])), trodAll_below hl hb (fun t ht => hr t (by simp [ht])) h2 (fun x hx => hlt x (by simp [hx])), rfl⟩
 | [], _ :: _, _, _, _, h, _ => h.elim
 | [], [], _ :: _, _, _, h, _ => h.elim
 | _ :: _, [], _, _, _, h, _ => h.elim
 | _ :: _, _ :: _, [], _, _, h, _ => h.elim

/-- A law's end: it returns true, and nothing old has turned. -/
theorem post_true {f : Func} {s : ChangeSpec} {W W' : World} {args : Array Value} {ds gs : List (DataW H)} {before : List MemPlace} {tb : TypeId} (hl : laidOutB P = true)
  (hW : DataW.Whole enc P f.params.toList s.vars false W args.toList ds gs before) (hv : s.vars = []) (hfn : s.fn H (ds ++ []) = { results := [.lit (.bool true)], args := ds }) (hrt : f.resultTypes = #[tb]) (htb : P.underlying tb = some .bool)
  (hrec : ∀ t ∈ f.params.toList, P.readableRec t = true ∧ t < P.types.size) (hb : Below W.heap.size W W') : s.post enc P f false true false false W args (.bool true) W' := by
 have hlt := hW.lt
 have hW' := hW
 obtain ⟨p, q, hA, hV, rfl, hfz, hnd⟩ := hW
 rw [hv] at hV
 obtain ⟨rfl, rfl⟩ := trodVars_none hV
 refine ⟨ds, [], p ++ [], [], p, [], hW', ?_, ?_, ?_, ?_, fun h => by cases h⟩
 ·rw [hfn, hrt]
  exact trodAll_mk1 (shut_bool htb true)
 ·rw [hfn]
  exact trodAll_below hl hb hrec hA (fun x hx => hlt x (by simp [hx]))
 ·rw [hfn, hv]
  exact rfl
 ·exact hb.frame _
end
end Go.Adm

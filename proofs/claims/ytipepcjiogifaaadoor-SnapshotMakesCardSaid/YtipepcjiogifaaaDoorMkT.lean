/- Entries sorted by their paths. -/
import Derived.Test.YtipepcjiogifaaaDoorLayE
import Derived.Test.YtipepcjiogifaaaDoorMkO
import Derived.Test.YtipepcjiogifaaaDoorMkL
import Derived.Test.YtipepcjiogifaaaDoorMkP
set_option linter.unusedSimpArgs false
set_option linter.unusedVariables false
set_option maxRecDepth 100000
namespace Go.Adm
open Go Go.RowKit Go.Sort Go.Proofs
abbrev EE := {e : E // E32 e}
instance : Inhabited EE := ⟨⟨⟨ByteArray.empty, z32⟩, ⟨rfl, by decide⟩⟩⟩
def encE (x : EE) : List Value := entC x.1
theorem ee_list : ∀ (l : List E), (∀ x ∈ l, E32 x) → ∃ L : List EE, L.map (fun x => x.1) = l
  | [], _ => ⟨[], rfl⟩
  | x :: l, h => by
    obtain ⟨L, hL⟩ := ee_list l (fun y hy => h y (List.mem_cons_of_mem _ hy))
    exact ⟨⟨x, h x List.mem_cons_self⟩ :: L, by rw [List.map_cons, hL]⟩
theorem ee_enc (L : List EE) : L.map encE = (L.map (fun x => x.1)).map entC := by rw [List.map_map]; rfl
end Go.Adm
namespace Go.Proofs.YtipepcjiogifaaaDoor
open Go Go.RowKit Go.Adm Go.Sort Go.Proofs
def cmpE (x y : EE) : Int := cmpS x.1.p y.1.p
theorem lt_cmp (x y : EE) : ltOf cmpE x y = blt x.1.p y.1.p := by
  unfold ltOf cmpE cmpS blt
  cases h : Op.bytesLess x.1.p.toList y.1.p.toList with
  | true => rw [if_pos rfl]; rfl
  | false =>
    rw [if_neg (by decide)]
    split <;> rfl
theorem swoE : SWO (ltOf cmpE) where
  irrefl x := by rw [lt_cmp]; exact sto_blt.irr _
  trans x y z h1 h2 := by rw [lt_cmp] at *; exact sto_blt.tr _ _ _ h1 h2
  ntrans x y z h1 h2 := by
    rw [lt_cmp] at *
    cases h3 : blt x.1.p z.1.p with
    | false => rfl
    | true =>
      by_cases e : x.1.p = y.1.p
      · rw [e] at h3; rw [h3] at h2; cases h2
      · rcases sto_blt.tot _ _ e with h4 | h4
        · rw [h4] at h1; cases h1
        · have := sto_blt.tr _ _ _ h4 h3
          rw [this] at h2; cases h2
set_option maxHeartbeats 1600000 in
theorem closureE (x y : E) (W : World) : Calls Tryd.prog 36 #[.agg (entC x).toArray, .agg (entC y).toArray] W fun e w' => e = .returned (.int .i64 (cmpS x.p y.p)) ∧ ∃ q os', w' = grow (W.drewN q) os' := by
  have q0 : ((W.alloc (.cells (entC x).toArray 50)).alloc (.cells (entC y).toArray 50)).cell? ⟨W.heap.size, 0, none⟩ = some (.string x.p) := Cells.cell ((Cells.new' W 50 (l := entC x) _ rfl rfl).alloc _) (i := 0) (by simp [entC])
  have q1 : ((W.alloc (.cells (entC x).toArray 50)).alloc (.cells (entC y).toArray 50)).cell? ⟨W.heap.size + 1, 0, none⟩ = some (.string y.p) := Cells.cell (Cells.new' (W.alloc (.cells (entC x).toArray 50)) 50 (l := entC y) _ (by simp) rfl) (i := 0) (by simp [entC])
  go_enter Tryd.func36, Tryd.ntmps36
  go_wp2_with (go_at_call 37; refine (Compare_str _ _ _).mono ?_; rintro e w' ⟨rfl, rfl⟩)
  go_ret
  exact ⟨rfl, 0, _, by rw [alloc_eq_grow, alloc_eq_grow, grow_grow]; rfl⟩
theorem SortE_any (w : World) (base g c : Nat) (l : List E) (h32 : ∀ x ∈ l, E32 x) (hO : Go.Adm.Own w base 50 33 (some ⟨g, 0, none⟩) l.length c (l.map entC).flatten) (hl : l.length ≤ 1000) (hb : base ≤ w.heap.size) :
    Calls Tryd.prog 35 #[.slice (some ⟨g, 0, none⟩) l.length c, .func (.func 36) #[] #[]] w fun e w' => e = .returned (.tuple #[]) ∧ ∃ d : List E, d.Perm l ∧ (d.Pairwise fun x y => blt y.p x.p = false) ∧ Go.Adm.Own w' base 50 33 (some ⟨g, 0, none⟩) l.length c (d.map entC).flatten ∧ Go.RowKit.Below base w w' := by
  obtain ⟨L, rfl⟩ := ee_list l h32
  rw [List.length_map] at *
  rw [← ee_enc] at hO
  have hk : ∀ x : EE, (encE x).length = 33 := fun x => entC_len x.2
  have eg : ∀ args w, (callFunc 36 args).run Tryd.prog w = .ok (.enter 36 args) w := enters_of Tryd.func36 (by kernel_rfl) rfl
  have hO' : Go.Adm.Own w base 50 33 (some ⟨g, 0, none⟩) L.length c ((L.toArray.toList.map encE).flatten) := hO
  obtain ⟨hH, hbg, hgw, hsz⟩ := own_holdsK hk (by decide) hO'
  have hcon := AnyQ.slices_SortFunc Tryd.sortE 33 Tryd.isAgg50 Tryd.sizeOf50 encE hk (fun x v hv => entC_one x.1 v hv) cmpE swoE 36 #[] g 0 c L.toArray w eg (fun _ _ _ _ x y => closureE x.1 y.1 _) hH hgw (by rw [hsz]; omega)
  change Calls Tryd.prog 35 _ _ _ at hcon
  rw [hsz] at hcon
  refine hcon.mono ?_
  rintro e w' ⟨rfl, d', n, os, hp, hs, rfl⟩
  obtain ⟨p1, -, p3⟩ := hp
  have hd' : d'.size = L.length := by rw [p1, hsz]
  refine ⟨rfl, d'.toList.map (fun x => x.1), ?_, ?_, ?_, below_sorted (Go.RowKit.Below.refl _ _) hbg hb⟩
  · have e1 : d'.extract 0 L.length = d' := by rw [← hd']; simp
    have e2 : L.toArray.extract 0 L.length = L.toArray := by rw [← hsz]; simp
    rw [e1, e2] at p3
    exact p3.map _
  · rw [List.pairwise_map, List.pairwise_iff_getElem]
    intro i j hi hj hij
    rw [Array.length_toList] at hi hj
    have := hs i j (Nat.zero_le _) hij (by omega)
    rw [lt_cmp, getElem!_pos d' j hj, getElem!_pos d' i hi] at this
    simpa using this
  · rw [← ee_enc]
    exact own_sorted hk (by decide) hO' p1
end Go.Proofs.YtipepcjiogifaaaDoor

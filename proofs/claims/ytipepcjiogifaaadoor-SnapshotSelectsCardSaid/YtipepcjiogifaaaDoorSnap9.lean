/- The waking test of the laws on snapshots. -/
import Derived.Test.YtipepcjiogifaaaDoorTapA
import Derived.Test.YtipepcjiogifaaaDoorSnap8
set_option linter.unusedSimpArgs false
set_option linter.unusedVariables false
namespace Go.Adm
open Go Go.RowKit
theorem wp_bld {P : Program} {o : Oper} {a : Act} {w : World} {K : Act → World → Prop} {Q : Exit → Act → World → Prop} (t : TypeId) (parts : List (Nat × Operand)) (ho : o.op = .build t parts.toArray)
    (fields : Array Field) (z : Value) (places : Array (Nat × Nat)) (cells : Array Value)
    (hz : ∀ w, (zeroValue t).run P w = .ok z w) (hu : P.underlying t = some (.struct fields)) (hp : ∀ w, (placesOf fields).run P w = .ok places w)
    (hf : Instr.fill (places[·]?) z.cells (parts.map fun x => (x.1, a.eval x.2)) = some cells)
    (h : K (a.put o.dst (.agg cells)) w) : o.wp P a w K Q := by
  have hf' : Instr.fill (places[·]?) z.cells ((parts.toArray.map fun (i, x) => (i, a.eval x)).toList) = some cells := by
    rw [Array.toList_map]; exact hf
  unfold Oper.wp execOp
  simp only [ho, Sem.run_bind, run_build_struct w t fields z places _ cells (hz w) hu (hp w) hf', Result.andThen_ok]
  exact h
theorem wl_met {P : Program} {ops : Array Oper} {rest : List Oper} {o : Oper} {a : Act} {w : World} {Q : Exit → Act → World → Prop} (hw : Region.wanted o (yielded ops a.tmps) = true)
    (h : o.wp P a w (wpList P ops Q rest) Q) : wpList P ops Q (o :: rest) a w := by
  unfold wpList
  rw [if_pos hw]
  exact .inl h
def dOne : List UInt8 := 1 :: List.replicate 31 0
def cOne : C := ⟨⟨#[97]⟩, z32, dOne⟩
def eOne : E := ⟨⟨#[97]⟩, dOne⟩
theorem one_val0 : validB ([] : List E) = true := by decide +kernel
theorem one_chg : changesB [cOne] = true := by decide +kernel
theorem one_app : appR [] [cOne] = ([eOne], 0) := by kernel_rfl
theorem one_val : validB [eOne] = true := by decide +kernel
theorem one_eq : entEq eOne eOne = true := by decide +kernel
theorem one_32 : C32 cOne ∧ E32 eOne := ⟨⟨rfl, rfl, by decide⟩, ⟨rfl, by decide⟩⟩
end Go.Adm
namespace Go.Proofs.YtipepcjiogifaaaDoor
open Go Go.RowKit Go.Adm

set_option maxRecDepth 100000 in
set_option maxHeartbeats 3200000 in
theorem awake_any (w : World) : Calls Tryd.prog 15 #[] w fun e w' => e = .returned (.bool true) ∧ Below w.heap.size w w' := by
  go_enter Tryd.func15, Tryd.ntmps15
  have hzr := zero_chg
  have hR : All w [.kept w w.heap.size] := ⟨⟨Below.refl _ _, Nat.le_refl _⟩, trivial⟩
  have hrd : Els (w.alloc (.cells (chgC cOne).toArray 57)) (w.heap.size + 1) 65 (some ⟨w.heap.size, 0, none⟩) [cOne].length ([cOne].map chgC) := ⟨by simpa using Rd.lit w (chgC cOne).toArray 57 1 (by rw [List.size_toArray, chgC_len one_32.1]), chgs_len (by intro c hc; rw [List.mem_singleton.1 hc]; exact one_32.1), rfl⟩
  have hap := Apply_good (w.alloc (.cells (chgC cOne).toArray 57)) (w.heap.size + 1) none (some ⟨w.heap.size, 0, none⟩) 0 1 [] [cOne] Els.nil hrd (by simp) (by intro c hc; rw [List.mem_singleton.1 hc]; exact one_32.1) (by decide) (by decide) (by simp) one_val0 one_chg
  rw [one_app] at hap
  have hI1 := hR.alloc (.cells (chgC cOne).toArray 57)
  go_wp2_with (first
    | (refine wl_build rfl 57 [(0, .const (.string ⟨#[97]⟩)), (2, .tmp 4)] rfl _ _ #[(0, 1), (1, 32), (33, 32)] (chgC cOne).toArray zero_chg Tryd.underlying57 (fun w => by kernel_rfl) ?_ ?_; kernel_rfl)
    | (refine wl_lit1 el_chg rfl _ rfl (chgC cOne) rfl (chgC_len one_32.1) (by decide) ?_)
    | (go_at_call 33; refine hap.mono ?_; clear hap hrd; rintro e w5 ⟨A5, c5, rfl, ho5, hb5⟩; have hI5 := hI1.call hb5; have hE5 : Els w5 w5.heap.size 33 A5 1 ([eOne].map entC) := Els.of ho5 (ents_len (by intro c hc; rw [List.mem_singleton.1 hc]; exact one_32.2)) rfl; obtain ⟨ad, rfl, had, hcl⟩ := Els.elem hE5 (k := 0) (by decide); have hvl := Valid_any w5 w5.heap.size (some ad) 1 c5 [eOne] hE5 (by intro c hc; rw [List.mem_singleton.1 hc]; exact one_32.2) rfl (by decide) (Nat.le_refl _); rw [one_val] at hvl; clear hE5)
    | (refine wl_met rfl ?_; refine wp_load_any 50 (.tmp 19) rfl ad (by rfl) (entC eOne) _ (fun j u hu => by have := hcl j u hu; rwa [Nat.zero_mul, add_zero] at this) Tryd.underlying50 rfl (by rw [entC_len one_32.2]; kernel_rfl) ?_)
    | (refine wl_met rfl ?_; refine wp_bld 50 [(0, .const (.string ⟨#[97]⟩)), (1, .tmp 21)] rfl _ _ #[(0, 1), (1, 32)] (entC eOne).toArray zero_ent Tryd.underlying50 (fun w => by kernel_rfl) ?_ ?_; kernel_rfl)
    | (refine wl_met rfl ?_; refine wp_eql (.tmp 20) (.tmp 22) rfl (.bool true) ((eq_ent _ eOne eOne one_32.2 one_32.2).trans (by rw [one_eq])) (by go_simp) ?_)
    | (go_at_call 14; refine hvl.mono ?_; clear hvl; rintro e w6 ⟨rfl, hb6⟩; have hI6 := hI5.call hb6))
  go_ret
  exact ⟨rfl, (hI6.at_ 0 rfl).1⟩
end Go.Proofs.YtipepcjiogifaaaDoor

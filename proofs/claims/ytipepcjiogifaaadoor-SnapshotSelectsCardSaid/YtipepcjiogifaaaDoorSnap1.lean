/- The creation of a snapshot; the inversion's loop. -/
import Derived.Test.YtipepcjiogifaaaDoorSnapMem
set_option linter.unusedSimpArgs false
set_option linter.unusedVariables false
namespace Go.Adm
open Go Go.RowKit
theorem Cells.sub {w : World} {g : Nat} {t : TypeId} {cs vs : List Value} (h : Cells w g t cs) (o : Nat) (hd : ∀ j u, vs[j]? = some u → cs[o + j]? = some u) : ∀ j u, vs[j]? = some u → w.cell? ((⟨g, o, none⟩ : Addr).add j) = some u := fun j u hu => by
  have h1 := hd j u hu
  rw [add_lit]
  rw [List.getElem?_eq_some_iff] at h1
  obtain ⟨h2, h3⟩ := h1
  rw [Cells.cell h h2, h3]
theorem ent_sub (e : E) : ∀ j u, (e.d.map bv)[j]? = some u → (entC e)[1 + j]? = some u := fun j u hu => by
  rw [Nat.add_comm, entC, List.getElem?_cons_succ]; exact hu
theorem chg_sub1 {c : C} (h : C32 c) : ∀ j u, (c.o.map bv)[j]? = some u → (chgC c)[1 + j]? = some u := fun j u hu => by
  have hj := (List.getElem?_eq_some_iff.1 hu).1
  rw [Nat.add_comm, chgC, List.getElem?_cons_succ, List.getElem?_append_left hj]; exact hu
theorem chg_sub2 {c : C} (h : C32 c) : ∀ j u, (c.n.map bv)[j]? = some u → (chgC c)[33 + j]? = some u := fun j u hu => by
  rw [show 33 + j = (32 + j) + 1 from by omega, chgC, List.getElem?_cons_succ, List.getElem?_append_right (by rw [List.length_map, h.1]; omega), List.length_map, h.1, show 32 + j - 32 = j from by omega]; exact hu
theorem flat_step {α : Type} (f : α → List Value) (l : List α) (k : Nat) (hk : k < l.length) : ((l.take (k + 1)).map f).flatten = ((l.take k).map f).flatten ++ f l[k] := by
  rw [List.take_succ_eq_append_getElem hk, List.map_append, List.flatten_append]; simp only [List.map_cons, List.map_nil, List.flatten_cons, List.flatten_nil, List.append_nil]
def OwnPost {α : Type} (f : α → List Value) (size : Nat) (l : List α) (tid : TypeId) (w : World) (e : Ending) (w' : World) : Prop := ∃ A c, e = .returned (.slice A l.length c) ∧ Go.Adm.Own w' w.heap.size tid size A l.length c (l.map f).flatten ∧ Below w.heap.size w w'
end Go.Adm
namespace Go.Proofs.YtipepcjiogifaaaDoor
open Go Go.RowKit Go.Adm

set_option maxRecDepth 100000 in
set_option maxHeartbeats 3200000 in
theorem creation_any (w : World) (B : Nat) (A : Option Addr) (n c : Nat) (l : List E) (hl : Els w B 33 A n (l.map entC)) (h32 : ∀ e ∈ l, E32 e) (hn : l.length = n) (hn2 : n ≤ 1000000) (hB : B ≤ w.heap.size) :
    Calls Tryd.prog 54 #[.slice A n c] w (OwnPost chgC 65 (l.map (cre z32)) 57 w) := by
  have hR : All w [.low (.els B 33 A n (l.map entC)), .kept w w.heap.size] := ⟨⟨hl, hB⟩, ⟨Below.refl _ _, Nat.le_refl _⟩, trivial⟩
  have HN := Lib.hid hn
  have H32 := Lib.hid h32
  clear hl h32 hn
  go_enter Tryd.func54, Tryd.ntmps54
  go_upto_region 1 with (fail)
  have hI0 : All w [.own w.heap.size 57 65 none 0 0 (((l.take 0).map fun x => chgC (cre z32 x)).flatten), .low (.els B 33 A n (l.map entC)), .kept w w.heap.size] := ⟨Go.Adm.Own.nil _ _ _ _, hR⟩
  clear hR
  go_wp2
  go_loopw [3, 8] (fun v i wr => ∃ (k : Nat) (A' : Option Addr) (c' : Nat), k ≤ n ∧ i = .int .i64 k ∧ v = .slice A' k c' ∧ All wr [.own w.heap.size 57 65 A' k c' (((l.take k).map fun x => chgC (cre z32 x)).flatten), .low (.els B 33 A n (l.map entC)), .kept w w.heap.size]) (fun _ i _ => n - (intOf i).toNat)
  case atStart => exact ⟨0, none, 0, by omega, rfl, rfl, hI0⟩
  case round =>
    obtain ⟨k, A', c', hk, rfl, rfl, hI⟩ := hrel
    by_cases hlt : k < n
    · have hkl : k < l.length := by rw [HN.out]; exact hlt
      have hM := Lib.hid (flat_step (fun x => chgC (cre z32 x)) l k hkl)
      obtain ⟨ad, rfl, hadB, hc⟩ := Els.elem (hI.at_ 1 rfl : Els wr B 33 A n (l.map entC) ∧ B ≤ wr.heap.size).1 hkl
      have HC := Lib.hid hc
      have hx := Lib.hid (H32.out _ (List.getElem_mem hkl))
      clear hc
      generalize l[k] = x at *
      have hFL := Lib.hid (fill_chg02 x.p x.d hx.out.1)
      have hsz : w.heap.size ≤ wr.heap.size := hI.size_kept 2 rfl
      have hne : (Value.slice A' k c').ownBlock ≠ some wr.heap.size := Go.Adm.Own.ne (hI.at_ 0 rfl)
      have d1 : decide ((k : Int) < (n : Int)) = true := by simp; omega
      go_wp2_with (first
        | (refine wl_load_any rfl 50 (.tmp 10) rfl (ad.add (k * 33)) rfl (entC x) _ HC.out Tryd.underlying50 rfl (by rw [entC_len hx.out]; kernel_rfl) ?_)
        | (refine wl_store_at (hI.new (l := entZ) _ 50 rfl rfl) 0 rfl 50 (.tmp 5) (.tmp 11) rfl wr.heap.size _ _ (entC x) rfl rfl rfl (by rw [entC_len hx.out]; rfl) (by rw [entC_len hx.out]; kernel_rfl) (entC_one x) (by simp [Apart, Res.apart, Low.els, hne] <;> omega) ?_; intro W2 hW2 hs2; clear hs2; simp only [List.set_cons_zero] at hW2; have hsz2 : w.heap.size ≤ W2.heap.size := hW2.size_kept 3 rfl; have c0 : W2.cell? ⟨wr.heap.size, 0, none⟩ = some (.string x.p) := Cells.cell (hW2.at_ 0 rfl) (i := 0) (by simp [entC]))
        | (refine wl_load_any rfl 40 (.tmp 15) rfl ⟨wr.heap.size, 1, none⟩ rfl (x.d.map bv) _ (Cells.sub (hW2.at_ 0 rfl) 1 (ent_sub x)) Tryd.underlying40 rfl (by rw [List.length_map, hx.out.1]; kernel_rfl) ?_)
        | (refine wl_build rfl 57 [(0, .tmp 14), (2, .tmp 16)] rfl _ _ #[(0, 1), (1, 32), (33, 32)] (chgC (cre z32 x)).toArray zero_chg Tryd.underlying57 (fun w => by kernel_rfl) ?_ ?_; exact hFL.out)
        | (refine wl_lit1 el_chg rfl _ rfl (chgC (cre z32 x)) rfl (chgC_len (cre_32 hx.out)) (by decide) ?_)
        | (at_builtin; refine wl_app_at el_chg (hW2.alloc _) 1 rfl (.tmp 12) (.tmp 18) rfl w.heap.size _ _ _ _ rfl rfl (W2.heap.size + 1) _ 1 1 (chgC (cre z32 x)) rfl (Rd.lit W2 (chgC (cre z32 x)).toArray _ 1 (by rw [List.size_toArray, chgC_len (cre_32 hx.out)])) (chgC_one _) (by omega) (by simp; omega) (by intro g hg h; have hgn : g ≠ wr.heap.size := fun e => hne (by rw [h, e]); simp [Apart, Res.apart, Low.els] <;> omega) ?_; intro A7 c7 w7 hI7 hs7))
      refine ⟨⟨k + 1, A7, c7, by omega, by go_num, rfl, ?_⟩, by simp [intOf]; omega⟩
      rw [hM.out]
      exact hI7.2
    · obtain rfl : k = n := by omega
      have d1 : decide ((k : Int) < (k : Int)) = false := by simp
      rw [List.take_of_length_le (by rw [HN.out]; omega)] at hI
      go_wp2
      go_ret
      refine ⟨A', c', by rw [List.length_map, HN.out]; rfl, ?_, (hI.at_ 2 rfl).1⟩
      rw [List.length_map, HN.out, List.map_map]
      exact hI.1
end Go.Proofs.YtipepcjiogifaaaDoor

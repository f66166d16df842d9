/- Invert; equality of lists of entries and of changes. -/
import Derived.Test.YtieobkgdkiahbaaDoorSnap3
set_option linter.unusedSimpArgs false
set_option linter.unusedVariables false
namespace Go.Adm
open Go Go.RowKit
def ResPost {α : Type} (f : α → List Value) (size : Nat) (r : List α) (err : Int) (tid : TypeId) (w : World) (e : Ending) (w' : World) : Prop :=
  ∃ A c, e = .returned (.tuple #[.slice A r.length c, .int .i64 err]) ∧ Go.Adm.Own w' w.heap.size tid size A r.length c (r.map f).flatten ∧ Below w.heap.size w w'
theorem ResPost.nil {α : Type} {f : α → List Value} {size : Nat} {err : Int} {tid : TypeId} {w w' : World} {e : Ending} (he : e = .returned (.tuple #[.slice none 0 0, .int .i64 err])) (hb : Below w.heap.size w w') : ResPost f size [] err tid w e w' :=
  ⟨none, 0, he, Own.nil _ _ _ _, hb⟩
def invS (l : List C) : List C × Int := if changesB l then (l.map invC, 0) else ([], 1)
end Go.Adm
namespace Go.Proofs.YtieobkgdkiahbaaDoor
open Go Go.RowKit Go.Adm

set_option maxRecDepth 100000 in
set_option maxHeartbeats 3200000 in
theorem Invert_any (w : World) (B : Nat) (A : Option Addr) (n c : Nat) (l : List C) (hl : Els w B 65 A n (l.map chgC)) (h32 : ∀ e ∈ l, C32 e) (hn : l.length = n) (hn2 : n ≤ 1000000) (hB : B ≤ w.heap.size) :
    Calls Tryd.prog 23 #[.slice A n c] w (ResPost chgC 65 (invS l).1 (invS l).2 70 w) := by
  have hR : All w [.low (.els B 65 A n (l.map chgC)), .kept w w.heap.size] := ⟨⟨hl, hB⟩, ⟨Below.refl _ _, Nat.le_refl _⟩, trivial⟩
  have HN := Lib.hid hn
  have H32 := Lib.hid h32
  have hzr := zero_chg
  have hch := changes_any w B A n c l hl h32 hn hn2 hB
  clear hl h32 hn
  go_enter Tryd.func23, Tryd.ntmps23
  cases hv : changesB l with
  | false =>
    have HV := Lib.hid hv
    rw [hv] at hch
    clear hv
    go_wp2_with (go_at_call 45; refine hch.mono ?_; clear hch; rintro e w1 ⟨rfl, hb1⟩; have hR1 := hR.call hb1)
    go_ret2
    have hi : invS l = ([], 1) := by unfold invS; rw [HV.out]; rfl
    rw [hi]
    exact ResPost.nil rfl (hR1.at_ 1 rfl).1
  | true =>
    have HV := Lib.hid hv
    rw [hv] at hch
    clear hv
    go_wp2_with (go_at_call 45; refine hch.mono ?_; clear hch; rintro e w1 ⟨rfl, hb1⟩; have hR1 := hR.call hb1)
    have hs1 := hb1.size
    have hI0 : All w1 [.own w.heap.size 70 65 none 0 0 (((l.take 0).map fun x => chgC (invC x)).flatten), .low (.els B 65 A n (l.map chgC)), .kept w w.heap.size] := ⟨Go.Adm.Own.nil _ _ _ _, hR1⟩
    clear hR hR1 hb1
    go_loopw [4, 12] (fun v i wr => ∃ (k : Nat) (A' : Option Addr) (c' : Nat), k ≤ n ∧ i = .int .i64 k ∧ v = .slice A' k c' ∧ All wr [.own w.heap.size 70 65 A' k c' (((l.take k).map fun x => chgC (invC x)).flatten), .low (.els B 65 A n (l.map chgC)), .kept w w.heap.size]) (fun _ i _ => n - (intOf i).toNat)
    case atStart => exact ⟨0, none, 0, by omega, rfl, rfl, hI0⟩
    case round =>
      obtain ⟨k, A', c', hk, rfl, rfl, hI⟩ := hrel
      by_cases hlt : k < n
      · have hkl : k < l.length := by rw [HN.out]; exact hlt
        have hM := Lib.hid (flat_step (fun x => chgC (invC x)) l k hkl)
        obtain ⟨ad, rfl, hadB, hc⟩ := Els.elem (hI.at_ 1 rfl : Els wr B 65 A n (l.map chgC) ∧ B ≤ wr.heap.size).1 hkl
        have HC := Lib.hid hc
        have hx := Lib.hid (H32.out _ (List.getElem_mem hkl))
        clear hc
        generalize l[k] = x at *
        have hFL := Lib.hid (fill_chg012 x.p x.n x.o hx.out.2.1 hx.out.1)
        have hsz : w.heap.size ≤ wr.heap.size := hI.size_kept 2 rfl
        have hne : (Value.slice A' k c').ownBlock ≠ some wr.heap.size := Go.Adm.Own.ne (hI.at_ 0 rfl)
        have d1 : decide ((k : Int) < (n : Int)) = true := by simp; omega
        go_wp2_with (first
          | (refine wl_load_any rfl 70 (.tmp 14) rfl (ad.add (k * 65)) rfl (chgC x) _ HC.out Tryd.underlying70 rfl (by rw [chgC_len hx.out]; kernel_rfl) ?_)
          | (refine wl_store_at (hI.new (l := chgZ) _ 70 rfl rfl) 0 rfl 70 (.tmp 6) (.tmp 15) rfl wr.heap.size _ _ (chgC x) rfl rfl rfl (by rw [chgC_len hx.out]; rfl) (by rw [chgC_len hx.out]; kernel_rfl) (chgC_one x) (by simp [Apart, Res.apart, Low.els, hne] <;> omega) ?_; intro W2 hW2 hs2; clear hs2; simp only [List.set_cons_zero] at hW2; have hsz2 : w.heap.size ≤ W2.heap.size := hW2.size_kept 3 rfl; have c0 : W2.cell? ⟨wr.heap.size, 0, none⟩ = some (.string x.p) := Cells.cell (hW2.at_ 0 rfl) (i := 0) (by simp [chgC]))
          | (refine wl_load_any rfl 58 (.tmp 19) rfl ⟨wr.heap.size, 33, none⟩ rfl (x.n.map bv) _ (Cells.sub (hW2.at_ 0 rfl) 33 (chg_sub2 hx.out)) Tryd.underlying58 rfl (by rw [List.length_map, hx.out.2.1]; kernel_rfl) ?_)
          | (refine wl_load_any rfl 58 (.tmp 21) rfl ⟨wr.heap.size, 1, none⟩ rfl (x.o.map bv) _ (Cells.sub (hW2.at_ 0 rfl) 1 (chg_sub1 hx.out)) Tryd.underlying58 rfl (by rw [List.length_map, hx.out.1]; kernel_rfl) ?_)
          | (refine wl_build rfl 70 [(0, .tmp 18), (1, .tmp 20), (2, .tmp 22)] rfl _ _ #[(0, 1), (1, 32), (33, 32)] (chgC (invC x)).toArray zero_chg Tryd.underlying70 (fun w => by kernel_rfl) ?_ ?_; exact hFL.out)
          | (refine wl_lit1 el_chg rfl _ rfl (chgC (invC x)) rfl (chgC_len (inv_32 hx.out)) (by decide) ?_)
          | (at_builtin; refine wl_app_at el_chg (hW2.alloc _) 1 rfl (.tmp 16) (.tmp 24) rfl w.heap.size _ _ _ _ rfl rfl (W2.heap.size + 1) _ 1 1 (chgC (invC x)) rfl (Rd.lit W2 (chgC (invC x)).toArray _ 1 (by rw [List.size_toArray, chgC_len (inv_32 hx.out)])) (chgC_one _) (by omega) (by simp; omega) (by intro g hg h; have hgn : g ≠ wr.heap.size := fun e => hne (by rw [h, e]); simp [Apart, Res.apart, Low.els] <;> omega) ?_; intro A7 c7 w7 hI7 hs7))
        refine ⟨⟨k + 1, A7, c7, by omega, by go_num, rfl, ?_⟩, by simp [intOf]; omega⟩
        rw [hM.out]
        exact hI7.2
      · obtain rfl : k = n := by omega
        have d1 : decide ((k : Int) < (k : Int)) = false := by simp
        rw [List.take_of_length_le (by rw [HN.out]; omega)] at hI
        go_wp2
        go_ret2
        have hi : invS l = (l.map invC, 0) := by unfold invS; rw [HV.out]; rfl
        rw [hi]
        refine ⟨A', c', by rw [List.length_map, HN.out]; rfl, ?_, (hI.at_ 2 rfl).1⟩
        rw [List.length_map, HN.out, List.map_map]
        exact hI.1
end Go.Proofs.YtieobkgdkiahbaaDoor

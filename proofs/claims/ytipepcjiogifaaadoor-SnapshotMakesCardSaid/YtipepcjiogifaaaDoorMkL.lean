/- Lookup of the program; comparison of entries; a copy of a list. -/
import Derived.Test.YtipepcjiogifaaaDoorRef3
import Derived.Test.YtipepcjiogifaaaDoorRel1
import Derived.Test.YtipepcjiogifaaaDoorTapA
set_option linter.unusedSimpArgs false
set_option linter.unusedVariables false
set_option maxRecDepth 100000
namespace Go.Proofs.YtipepcjiogifaaaDoor
open Go Go.RowKit Go.Adm
set_option maxHeartbeats 3200000 in
theorem pLookup_any (w : World) (B : Nat) (A : Option Addr) (n c : Nat) (l : List E) (kk : ByteArray) (hl : Els w B 33 A n (l.map entC)) (h32 : ∀ e ∈ l, E32 e) (hn : l.length = n) (hn2 : n ≤ 1000000) (hB : B ≤ w.heap.size) :
    Calls Tryd.prog 18 #[.slice A n c, .string kk] w fun e w' => e = .returned (.tuple #[.agg ((lookZ z32 l kk).map bv).toArray, .bool (lookR l kk).isSome]) ∧ Below w.heap.size w w' := by
  have hR : All w [.low (.els B 33 A n (l.map entC)), .kept w w.heap.size] := ⟨⟨hl, hB⟩, ⟨Below.refl _ _, Nat.le_refl _⟩, trivial⟩
  have HN := Lib.hid hn
  have H32 := Lib.hid h32
  clear hl h32 hn
  have hzr := zero_ent
  go_enter Tryd.func18, Tryd.ntmps18
  go_upto_region 1 with (fail)
  refine wp_gen (hR.new (l := z32.map bv) _ 40 rfl rfl) ?_
  intro w1 hR1
  clear hR
  go_wp2_with fail
  go_loopw [10] (fun i wr => ∃ k : Nat, k ≤ n ∧ i = .int .i64 k ∧ Hid (∀ j (hj : j < l.length), j < k → l[j].p ≠ kk) ∧ All wr [.cells w.heap.size 40 (z32.map bv), .low (.els B 33 A n (l.map entC)), .kept w w.heap.size]) (fun i _ => n - (intOf i).toNat)
  case atStart => exact ⟨0, Nat.zero_le _, rfl, Lib.hid (fun _ _ h => absurd h (by omega)), hR1⟩
  case round =>
    clear hR1
    obtain ⟨k, hk, rfl, Hall, hI⟩ := hrel
    by_cases hlt : k < n
    · have d1 : decide ((k : Int) < (n : Int)) = true := by simp; omega
      have hkl : k < l.length := by rw [HN.out]; exact hlt
      obtain ⟨ad, rfl, hadB, hc⟩ := Els.elem (hI.at_ 1 rfl : Els wr B 33 A n (l.map entC) ∧ B ≤ wr.heap.size).1 hkl
      have HC := Lib.hid hc
      have hx := Lib.hid (H32.out _ (List.getElem_mem hkl))
      have HH : Hid (decide (l[k].p = kk) = true → lookR l kk = some l[k].d) := Lib.hid (fun h => by unfold lookR; rw [find_hit _ l k hkl (fun j hj h2 => decide_eq_false (Hall.out j hj h2)) h]; rfl)
      have HM : Hid (decide (l[k].p = kk) = false → ∀ j (hj : j < l.length), j < k + 1 → l[j].p ≠ kk) := Lib.hid (fun h j hj h2 => by
        rcases Nat.lt_succ_iff_lt_or_eq.1 h2 with h4 | h4
        · exact Hall.out j hj h4
        · subst h4; exact of_decide_eq_false h)
      clear hc Hall
      generalize l[k] = x at *
      have wk1 : (0 : Int) ≤ (k : Int) := by omega
      have wk2 : (k : Int) < (n : Int) := by omega
      have hsz : w.heap.size ≤ wr.heap.size := hI.size_kept 2 rfl
      have hlw := Cells.lt (hI.at_ 0 rfl)
      obtain ⟨gx, hgx⟩ : ∃ gx, gx = wr.heap.size := ⟨_, rfl⟩
      go_upto_region 4 with (first
        | (refine wl_load_any rfl 50 (.tmp 12) rfl (ad.add (k * 33)) rfl (entC x) _ HC.out Tryd.underlying50 rfl (by rw [entC_len hx.out]; kernel_rfl) ?_)
        | (refine wl_store_at (hI.new (l := entZ) _ 50 hgx rfl) 0 rfl 50 (.tmp 7) (.tmp 13) rfl gx _ _ (entC x) rfl (by rw [hgx]; rfl) rfl (by rw [entC_len hx.out]; rfl) (by rw [entC_len hx.out]; kernel_rfl) (entC_one x) (by simp [Apart, Res.apart, Low.els] <;> omega) ?_; intro W2 hW2 hs2; clear hs2; simp only [List.set_cons_zero] at hW2))
      simp only [← hgx]
      have hgB : w.heap.size < gx := by omega
      clear hgx hI HC
      have c0 : W2.cell? ⟨gx, 0, none⟩ = some (.string x.p) := Cells.cell (hW2.at_ 0 rfl) (i := 0) (by simp [entC])
      cases hb : (x.p.toList == kk.toList) with
      | true =>
        have hv1 : Hid (lookR l kk = some x.d) := Lib.hid (HH.out (by rw [← toList_beq]; exact hb))
        go_wp2_with (first
          | (refine wl_load_any rfl 40 (.tmp 18) rfl ⟨gx, 1, none⟩ rfl (x.d.map bv) _ (Cells.sub (hW2.at_ 0 rfl) 1 (fun j u h => by rw [Nat.add_comm]; exact h)) Tryd.underlying40 rfl (by rw [List.length_map, hx.out.1]; kernel_rfl) ?_)
          | (refine wl_store_at hW2 1 rfl 40 (.tmp 4) (.tmp 19) rfl w.heap.size _ _ (x.d.map bv) rfl rfl rfl (by rw [List.length_map, hx.out.1]; rfl) (by rw [List.length_map, hx.out.1]; kernel_rfl) (bv_one _) (by simp [Apart, Res.apart, Low.els] <;> omega) ?_; intro W3 hW3 hs3; clear hs3; simp only [List.set_cons_succ, List.set_cons_zero] at hW3))
        clear hW2
        have e1 : Hid (lookZ z32 l kk = x.d) := Lib.hid (by unfold lookZ; rw [hv1.out]; rfl)
        refine bodyPost_ret (v := .tuple #[.agg (x.d.map bv).toArray, .bool true]) ?_ rfl ⟨by rw [e1.out, hv1.out]; rfl, (hW3.at_ 3 rfl).1⟩
        exact results_row_tmp (p := 4) (q := 5) rfl _ _ w.heap.size 40 (x.d.map bv).toArray (0, 0) _ rfl (hW3.at_ 1 rfl) Tryd.underlying40 rfl (by rw [List.size_toArray, List.length_map, hx.out.1]; kernel_rfl)
      | false =>
        have hm := Lib.hid (HM.out (by rw [← toList_beq]; exact hb))
        have hW3 := hW2.2
        clear hW2
        go_wp2_with fail
        exact ⟨⟨k + 1, by omega, by go_num, hm, hW3⟩, by simp [intOf]; omega⟩
    · have d1 : decide ((k : Int) < (n : Int)) = false := by simp; omega
      have hv0 : Hid (lookR l kk = none) := Lib.hid (lookR_none.2 fun x hx => by
        obtain ⟨j, hj, rfl⟩ := List.getElem_of_mem hx
        exact Hall.out j hj (by rw [HN.out] at hj; omega))
      go_wp2_with (first
        | (refine wl_store_at hI 0 rfl 40 (.tmp 4) (.tmp 21) rfl w.heap.size _ _ (z32.map bv) rfl rfl rfl (rfl) (by kernel_rfl) (bv_one _) (by simp [Apart, Res.apart, Low.els] <;> omega) ?_; intro W2 hW2 hs2; clear hs2; simp only [List.set_cons_zero] at hW2))
      clear hI
      have e1 : Hid (lookZ z32 l kk = z32) := Lib.hid (by unfold lookZ; rw [hv0.out]; rfl)
      refine bodyPost_ret (v := .tuple #[.agg (z32.map bv).toArray, .bool false]) ?_ rfl ⟨by rw [e1.out, hv0.out]; rfl, (hW2.at_ 2 rfl).1⟩
      exact results_row_tmp (p := 4) (q := 5) rfl _ _ w.heap.size 40 (z32.map bv).toArray (0, 0) _ rfl (hW2.at_ 0 rfl) Tryd.underlying40 rfl (by kernel_rfl)
end Go.Proofs.YtipepcjiogifaaaDoor

/- Lookup and find of the reference. -/
import Derived.Test.YtipepcjiogifaaaDoorRef2
import Derived.Test.YtipepcjiogifaaaDoorSnapSpec4
set_option linter.unusedSimpArgs false
set_option linter.unusedVariables false
set_option maxRecDepth 100000
namespace Go.Adm
open Go Go.RowKit
def cZ : C := ⟨ByteArray.empty, z32, z32⟩
theorem find_hit {α : Type} (q : α → Bool) : ∀ (l : List α) (i : Nat) (hi : i < l.length), (∀ j (hj : j < l.length), j < i → q l[j] = false) → q l[i] = true → l.find? q = some l[i]
  | [], i, hi, _, _ => absurd hi (by simp)
  | x :: l, 0, hi, _, h => List.find?_cons_of_pos (show q x = true from h)
  | x :: l, i + 1, hi, h1, h => by
    have h0 : q x = false := h1 0 (by simp) (by omega)
    rw [List.find?_cons_of_neg (by rw [h0]; decide), find_hit q l i (by simpa using hi) (fun j hj h2 => h1 (j + 1) (by simpa using hj) (by omega)) h]
    rfl
theorem results_row_tmp {P : Program} {fn : Func} {p q : Tmp} {ty : TypeId} (h : fn.results = #[.cell p ty, .tmp q]) (tmps : Array Value) (w : World) (g : Nat) (t : TypeId) (cs : Array Value) (fr : Nat × Nat) (d : TypeDesc)
    (hp : tmps.getD p undef = .pointer (some ⟨g, 0, none⟩)) (hg : w.heap[g]? = some (.cells cs t fr))
    (hu : P.underlying ty = some d) (hd : (match d with | .struct _ | .array _ _ => true | _ => false) = true) (hi : (P.info? ty).map (·.size) = some cs.size) :
    (results fn tmps).run P w = .ok (.tuple #[.agg cs, tmps.getD q undef]) w := by
  have hp' : tmps[p]?.getD undef = .pointer (some ⟨g, 0, none⟩) := by simpa using hp
  simp [results, h, hp', asAddr, run_loadVar_row w g t ty cs fr d hg hu hd hi]
end Go.Adm
namespace Go.Proofs.YtipepcjiogifaaaDoor
open Go Go.RowKit Go.Adm

set_option maxHeartbeats 3200000 in
theorem Lookup_any (w : World) (B : Nat) (A : Option Addr) (n c : Nat) (l : List E) (kk : ByteArray) (hl : Els w B 33 A n (l.map entC)) (h32 : ∀ e ∈ l, E32 e) (hn : l.length = n) (hn2 : n ≤ 1000000) (hB : B ≤ w.heap.size) :
    Calls Tryd.prog 19 #[.slice A n c, .string kk] w fun e w' => e = .returned (.tuple #[.agg ((lookZ z32 l kk).map bv).toArray, .bool (lookR l kk).isSome]) ∧ Below w.heap.size w w' := by
  have hR : All w [.low (.els B 33 A n (l.map entC)), .kept w w.heap.size] := ⟨⟨hl, hB⟩, ⟨Below.refl _ _, Nat.le_refl _⟩, trivial⟩
  have HN := Lib.hid hn
  have H32 := Lib.hid h32
  clear hl h32 hn
  go_enter Tryd.func19, Tryd.ntmps19
  go_upto_region 1 with (fail)
  refine wp_gen (hR.new (l := z32.map bv) _ 40 rfl rfl) ?_
  intro w1 hR1
  clear hR
  go_wp2_with fail
  go_loop [6] (fun i => ∃ k : Nat, k ≤ n ∧ i = .int .i64 k ∧ ∀ j (hj : j < l.length), j < k → l[j].p ≠ kk) (fun i => n - (intOf i).toNat)
  case atStart => exact ⟨0, Nat.zero_le _, rfl, fun _ _ h => absurd h (by omega)⟩
  case round =>
    obtain ⟨k, hk, rfl, hall⟩ := hrel
    have Hall := Lib.hid hall
    clear hall
    by_cases hlt : k < n
    · have d1 : decide ((k : Int) < (n : Int)) = true := by simp; omega
      have hkl : k < l.length := by rw [HN.out]; exact hlt
      obtain ⟨ad, rfl, hadB, hc⟩ := Els.elem (hR1.at_ 1 rfl : Els w1 B 33 A n (l.map entC) ∧ B ≤ w1.heap.size).1 hkl
      have HC := Lib.hid hc
      have hx := Lib.hid (H32.out _ (List.getElem_mem hkl))
      have HH : Hid (decide (l[k].p = kk) = true → lookR l kk = some l[k].d) := Lib.hid (fun h => by unfold lookR; rw [find_hit _ l k hkl (fun j hj h2 => decide_eq_false (Hall.out j hj h2)) h]; rfl)
      have HM : Hid (decide (l[k].p = kk) = false → ∀ j (hj : j < l.length), j < k + 1 → l[j].p ≠ kk) := Lib.hid (fun h j hj h2 => by
        rcases Nat.lt_succ_iff_lt_or_eq.1 h2 with h4 | h4
        · exact Hall.out j hj h4
        · subst h4; exact of_decide_eq_false h)
      clear hc
      generalize l[k] = x at *
      have c0 : w1.cell? (ad.add (k * 33)) = some (.string x.p) := by have := HC.out 0 (sv x.p) rfl; rwa [add_zero] at this
      have wk1 : (0 : Int) ≤ (k : Int) := by omega
      have wk2 : (k : Int) < (n : Int) := by omega
      cases hb : (x.p.toList == kk.toList) with
      | true =>
        have hv1 : Hid (lookR l kk = some x.d) := Lib.hid (HH.out (by rw [← toList_beq]; exact hb))
        go_wp2_with (first
          | (refine wl_load_any rfl 40 (.tmp 23) rfl ((ad.add (k * 33)).add 1) rfl (x.d.map bv) _ (fun q s hs => by rw [add_add]; exact HC.out _ s (ent_sub x q s hs)) Tryd.underlying40 rfl (by rw [List.length_map, hx.out.1]; kernel_rfl) ?_)
          | (refine wl_store_at hR1 0 rfl 40 (.tmp 4) (.tmp 24) rfl w.heap.size _ _ (x.d.map bv) rfl rfl rfl (by rw [List.length_map, hx.out.1]; rfl) (by rw [List.length_map, hx.out.1]; kernel_rfl) (bv_one _) (by simp [Apart, Res.apart, Low.els] <;> omega) ?_; intro W2 hW2 hs2; clear hs2; simp only [List.set_cons_zero] at hW2))
        clear hR1
        have e1 : Hid (lookZ z32 l kk = x.d) := Lib.hid (by unfold lookZ; rw [hv1.out]; rfl)
        refine bodyPost_ret (v := .tuple #[.agg (x.d.map bv).toArray, .bool true]) ?_ rfl ⟨by rw [e1.out, hv1.out]; rfl, (hW2.at_ 2 rfl).1⟩
        exact results_row_tmp (p := 4) (q := 5) rfl _ _ w.heap.size 40 (x.d.map bv).toArray (0, 0) _ rfl (hW2.at_ 0 rfl) Tryd.underlying40 rfl (by rw [List.size_toArray, List.length_map, hx.out.1]; kernel_rfl)
      | false =>
        have hm := Lib.hid (HM.out (by rw [← toList_beq]; exact hb))
        go_wp2_with fail
        exact ⟨⟨k + 1, by omega, by go_num, hm.out⟩, by simp [intOf]; omega⟩
    · have d1 : decide ((k : Int) < (n : Int)) = false := by simp; omega
      have hv0 : Hid (lookR l kk = none) := Lib.hid (lookR_none.2 fun x hx => by
        obtain ⟨j, hj, rfl⟩ := List.getElem_of_mem hx
        exact Hall.out j hj (by rw [HN.out] at hj; omega))
      go_wp2_with (first
        | (refine wl_store_at hR1 0 rfl 40 (.tmp 4) (.tmp 25) rfl w.heap.size _ _ (z32.map bv) rfl rfl rfl (rfl) (by kernel_rfl) (bv_one _) (by simp [Apart, Res.apart, Low.els] <;> omega) ?_; intro W2 hW2 hs2; clear hs2; simp only [List.set_cons_zero] at hW2))
      clear hR1
      have e1 : Hid (lookZ z32 l kk = z32) := Lib.hid (by unfold lookZ; rw [hv0.out]; rfl)
      refine bodyPost_ret (v := .tuple #[.agg (z32.map bv).toArray, .bool false]) ?_ rfl ⟨by rw [e1.out, hv0.out]; rfl, (hW2.at_ 2 rfl).1⟩
      exact results_row_tmp (p := 4) (q := 5) rfl _ _ w.heap.size 40 (z32.map bv).toArray (0, 0) _ rfl (hW2.at_ 0 rfl) Tryd.underlying40 rfl (by kernel_rfl)

end Go.Proofs.YtipepcjiogifaaaDoor

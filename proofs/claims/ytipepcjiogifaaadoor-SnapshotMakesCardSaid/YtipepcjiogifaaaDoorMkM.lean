/- The snapshot of any list: the program's Make. -/
import Derived.Test.YtipepcjiogifaaaDoorMkT
import Derived.Test.YtipepcjiogifaaaDoorSnap4
import Derived.Test.YtipepcjiogifaaaDoorRef4
import Derived.Test.YtipepcjiogifaaaDoorSnap9
import Derived.Shelf.SlSortCmp.NoneTotal
set_option linter.unusedSimpArgs false
set_option linter.unusedVariables false
set_option maxRecDepth 100000
namespace Go.Adm
open Go Go.RowKit
theorem entsC_one (l : List E) : ∀ u ∈ (l.map entC).flatten, u.oneCell' = true := by
  intro u hu
  obtain ⟨cs, hcs, hu⟩ := List.mem_flatten.1 hu
  obtain ⟨e, _, rfl⟩ := List.mem_map.1 hcs
  rcases List.mem_cons.1 hu with rfl | h
  · rfl
  · obtain ⟨b, _, rfl⟩ := List.mem_map.1 h
    rfl
theorem mkR_long {l : List E} (h : 64 < l.length) : mkR l = ([], 3) := by unfold mkR; rw [if_pos h]
theorem mkR_bad {l : List E} (h : ¬ 64 < l.length) {k : Nat} (hk : k < l.length) (hg : goodE l[k] = false) : mkR l = ([], 1) := by
  unfold mkR
  rw [if_neg h, if_neg]
  intro h2
  have := List.all_eq_true.1 h2 _ (List.getElem_mem hk)
  rw [hg] at this
  cases this
theorem mkR_good {l : List E} (h : ¬ 64 < l.length) (hg : ∀ j (hj : j < l.length), goodE l[j] = true) : l.all goodE = true ∧ mkR l = (match refM [] l with | some s => (s, 0) | none => ([], 5)) := by
  have hall : l.all goodE = true := List.all_eq_true.2 fun x hx => by
    obtain ⟨j, hj, rfl⟩ := List.getElem_of_mem hx
    exact hg j hj
  refine ⟨hall, ?_⟩
  unfold mkR
  rw [if_neg h, if_pos hall]
  rfl
end Go.Adm
namespace Go.Proofs.YtipepcjiogifaaaDoor
open Go Go.RowKit Go.Adm
set_option maxHeartbeats 1600000 in
theorem CloneE_any (w : World) (B : Nat) (A : Option Addr) (n c : Nat) (l : List E) (h : Els w B 33 A n (l.map entC)) (hn : l.length = n) (hn2 : n ≤ 1000000) (hB : B ≤ w.heap.size) :
    Calls Tryd.prog 34 #[.slice A n c] w fun e w' => ∃ A' c', e = .returned (.slice A' n c') ∧ Below w.heap.size w w' ∧ Go.Adm.Own w' w.heap.size 50 33 A' n c' (l.map entC).flatten := by
  have q23 : ∀ (w : World) (a : Option Addr) (n c n' c' : Nat), (binOp .eql 22 (.slice a n c) (.slice none n' c')).run Tryd.prog w = .ok (.bool a.isNone) w := fun w a n c n' c' => Lib.run_eql_slice_nil w _ _ a n c n' c' Tryd.underlying22
  cases A with
  | none =>
    have hn0 : n = 0 := by
      rcases Nat.eq_zero_or_pos n with h0 | h0
      · exact h0
      · obtain ⟨ad, e, _⟩ := h.rd.at_ h0; cases e
    subst hn0
    have hl : l = [] := List.eq_nil_of_length_eq_zero hn
    subst hl
    clear h
    go_enter Tryd.func34, Tryd.ntmps34
    go_wp2_with fail
    go_ret
    exact ⟨none, 0, rfl, Below.refl _ _, Go.Adm.Own.nil _ _ _ _⟩
  | some ad =>
    have hown0 : Go.Adm.Own (w.alloc (.cells #[] 50)) w.heap.size 50 33 (some ⟨w.heap.size, 0, none⟩) 0 0 [] := Go.Adm.Own.lit w #[] 0 (Nat.le_refl _) (by decide) rfl
    have hrx : Rd (w.alloc (.cells #[] 50)) B 33 (some ad) n (l.map entC).flatten := h.rd.alloc hB _
    clear h hn
    go_enter Tryd.func34, Tryd.ntmps34
    go_wp2_with (refine wl_app _ el_ent rfl (.tmp 5) (.tmp 6) rfl w.heap.size _ 0 0 [] rfl hown0 B _ n c (l.map entC).flatten rfl hrx (entsC_one _) (by omega) (by simp) ?_; intro A3 c3 w3 hown3 hb3 hg3)
    go_ret
    have hown4 := hown3.cast (Nat.zero_add n) (List.nil_append _)
    exact ⟨A3, c3, rfl, ((Below.refl _ w).alloc (Nat.le_refl _) _).trans hb3, hown4⟩
theorem SortNone_any (p : Option Addr) (cap : Nat) (fv : Value) (w : World) : Calls Tryd.prog 35 #[.slice p 0 cap, fv] w fun e w' => e = .returned (.tuple #[]) ∧ w' = w := AnyF.slices_SortFunc_none Tryd.sortE p cap fv w
/-- a copy of a list, sorted -/
theorem SortC_any (w0 w : World) (A : Option Addr) (n c : Nat) (l : List E) (h32 : ∀ x ∈ l, E32 x) (hn : l.length = n) (hl : n ≤ 1000) (hb : Below w0.heap.size w0 w) (hO : Go.Adm.Own w w0.heap.size 50 33 A n c (l.map entC).flatten) :
    Calls Tryd.prog 35 #[.slice A n c, .func (.func 36) #[] #[]] w fun e w' => e = .returned (.tuple #[]) ∧ ∃ d : List E, d.Perm l ∧ (d.Pairwise fun x y => blt y.p x.p = false) ∧ Go.Adm.Own w' w0.heap.size 50 33 A n c (d.map entC).flatten ∧ Below w0.heap.size w0 w' := by
  by_cases h0 : n = 0
  · subst h0
    obtain rfl : l = [] := List.eq_nil_of_length_eq_zero hn
    refine (SortNone_any A c _ w).mono ?_
    rintro e w' ⟨rfl, rfl⟩
    exact ⟨rfl, [], List.Perm.refl _, List.Pairwise.nil, hO, hb⟩
  · rcases id hO with ⟨-, ⟨e0, e1⟩ | ⟨g, cap, cur, e0, -, -, -, -, -, -⟩⟩
    · exact absurd e1 h0
    · injection e0 with e1 e2 e3
      subst e1 e3 hn
      refine (SortE_any w w0.heap.size g c l h32 hO hl hb.size).mono ?_
      rintro e w' ⟨rfl, d, h1, h2, h3, h4⟩
      exact ⟨rfl, d, h1, h2, h3, hb.trans h4⟩
set_option maxHeartbeats 6400000 in
theorem Make_any (w : World) (B : Nat) (A : Option Addr) (n c : Nat) (l : List E) (hl : Els w B 33 A n (l.map entC)) (h32 : ∀ e ∈ l, E32 e) (hn : l.length = n) (hn2 : n ≤ 1000000) (hB : B ≤ w.heap.size) :
    Calls Tryd.prog 16 #[.slice A n c] w (ResPost entC 33 (mkR l).1 (mkR l).2 50 w) := by
  have hR : All w [.low (.els B 33 A n (l.map entC)), .kept w w.heap.size] := ⟨⟨hl, hB⟩, ⟨Below.refl _ _, Nat.le_refl _⟩, trivial⟩
  have HN := Lib.hid hn
  have H32 := Lib.hid h32
  clear hl h32 hn
  by_cases q1 : 64 < n
  · have d1 : decide ((64 : Int) < (n : Int)) = true := by simp; omega
    have HF : Hid (mkR l = ([], 3)) := Lib.hid (mkR_long (by rw [HN.out]; exact q1))
    go_enter Tryd.func16, Tryd.ntmps16
    go_wp2_with fail
    go_ret2
    rw [HF.out]
    exact ResPost.nil rfl (Below.refl _ _)
  · have d1 : decide ((64 : Int) < (n : Int)) = false := by simp; omega
    have HQ : Hid (¬ 64 < l.length) := Lib.hid (by rw [HN.out]; exact q1)
    have hzr := zero_ent
    go_enter Tryd.func16, Tryd.ntmps16
    go_wp2_with fail
    go_loopw [12] (fun i wr => ∃ k : Nat, k ≤ n ∧ i = .int .i64 k ∧ Hid (∀ j (hj : j < l.length), j < k → goodE l[j] = true) ∧ All wr [.low (.els B 33 A n (l.map entC)), .kept w w.heap.size]) (fun i _ => n - (intOf i).toNat)
    case atStart => exact ⟨0, Nat.zero_le _, rfl, Lib.hid (fun _ _ h => absurd h (by omega)), hR⟩
    case round =>
      clear hR
      obtain ⟨k, hk, rfl, HA, hI⟩ := hrel
      by_cases hlt : k < n
      · have d2 : decide ((k : Int) < (n : Int)) = true := by simp; omega
        have hkl : k < l.length := by rw [HN.out]; exact hlt
        obtain ⟨ad, rfl, hadB, hc⟩ := Els.elem (hI.at_ 0 rfl : Els wr B 33 A n (l.map entC) ∧ B ≤ wr.heap.size).1 hkl
        have HC := Lib.hid hc
        have hx := Lib.hid (H32.out _ (List.getElem_mem hkl))
        have HNO : Hid (goodE l[k] = false → mkR l = ([], 1)) := Lib.hid (mkR_bad HQ.out hkl)
        have HNX : Hid (goodE l[k] = true → ∀ j (hj : j < l.length), j < k + 1 → goodE l[j] = true) := Lib.hid (fun h j hj h2 => by
          rcases Nat.lt_succ_iff_lt_or_eq.1 h2 with h4 | h4
          · exact HA.out j hj h4
          · subst h4; exact h)
        clear hc HA
        generalize l[k] = x at *
        have hsz : w.heap.size ≤ wr.heap.size := hI.size_kept 1 rfl
        obtain ⟨gx, hgx⟩ : ∃ gx, gx = wr.heap.size := ⟨_, rfl⟩
        go_upto_region 6 with (first
          | (refine wl_load_any rfl 50 (.tmp 14) rfl (ad.add (k * 33)) rfl (entC x) _ HC.out Tryd.underlying50 rfl (by rw [entC_len hx.out]; kernel_rfl) ?_)
          | (refine wl_store_at (hI.new (l := entZ) _ 50 hgx rfl) 0 rfl 50 (.tmp 5) (.tmp 15) rfl gx _ _ (entC x) rfl (by rw [hgx]; rfl) rfl (by rw [entC_len hx.out]; rfl) (by rw [entC_len hx.out]; kernel_rfl) (entC_one x) (by simp [Apart, Res.apart, Low.els] <;> omega) ?_; intro W2 hW2 hs2; clear hs2; simp only [List.set_cons_zero] at hW2))
        simp only [← hgx]
        clear hgx hI HC
        have c0 : W2.cell? ⟨gx, 0, none⟩ = some (.string x.p) := Cells.cell (hW2.at_ 0 rfl) (i := 0) (by simp [entC])
        have hcP := Path_any x.p W2 hx.out.2
        cases hp : pathB x.p with
        | false =>
          have HF : Hid (mkR l = ([], 1)) := Lib.hid (HNO.out (by rw [goodE, hp]; rfl))
          rw [hp] at hcP
          clear HNX HNO hp
          go_wp2_with (go_at_call 26; refine hcP.mono ?_; clear hcP; rintro e w3 ⟨rfl, hb3⟩; have hW3 := hW2.call hb3)
          go_ret2
          rw [HF.out]
          exact ResPost.nil rfl (hW3.at_ 2 rfl : _ ∧ _).1
        | true =>
          rw [hp] at hcP
          cases hz : decide (x.d = z32) with
          | true =>
            have HF : Hid (mkR l = ([], 1)) := Lib.hid (HNO.out (by rw [goodE, hp, hz]; rfl))
            have HZ := Lib.hid hz
            clear HNX HNO hp hz
            go_wp2_with (first
              | (go_at_call 26; refine hcP.mono ?_; clear hcP; rintro e w3 ⟨rfl, hb3⟩; have hW3 := hW2.call hb3)
              | (refine wl_met' rfl ?_; refine wp_load_any 40 (.tmp 21) rfl ⟨gx, 1, none⟩ rfl (x.d.map bv) _ (Cells.sub (hW3.at_ 0 rfl) 1 (ent_sub x)) Tryd.underlying40 rfl (by rw [List.length_map, hx.out.1]; kernel_rfl) ?_)
              | (refine wl_met' rfl ?_; refine wp_eql (.tmp 22) (.tmp 23) rfl (.bool true) ((eq_dg _ x.d z32 hx.out.1 rfl).trans (by rw [HZ.out])) (by go_simp) ?_))
            go_ret2
            rw [HF.out]
            exact ResPost.nil rfl (hW3.at_ 2 rfl : _ ∧ _).1
          | false =>
            have HX : Hid (∀ j (hj : j < l.length), j < k + 1 → goodE l[j] = true) := Lib.hid (HNX.out (by rw [goodE, hp, hz]; rfl))
            have HZ := Lib.hid hz
            clear HNX HNO hp hz
            go_upto_region 8 with (first
              | (go_at_call 26; refine hcP.mono ?_; clear hcP; rintro e w3 ⟨rfl, hb3⟩; have hW3 := hW2.call hb3)
              | (refine wl_met' rfl ?_; refine wp_load_any 40 (.tmp 21) rfl ⟨gx, 1, none⟩ rfl (x.d.map bv) _ (Cells.sub (hW3.at_ 0 rfl) 1 (ent_sub x)) Tryd.underlying40 rfl (by rw [List.length_map, hx.out.1]; kernel_rfl) ?_)
              | (refine wl_met' rfl ?_; refine wp_eql (.tmp 22) (.tmp 23) rfl (.bool false) ((eq_dg _ x.d z32 hx.out.1 rfl).trans (by rw [HZ.out])) (by go_simp) ?_))
            have hW4 := hW3.2
            clear hW3 hW2
            go_wp2_with fail
            exact ⟨⟨k + 1, by omega, by go_num, HX, hW4⟩, by simp [intOf]; omega⟩
      · have d2 : decide ((k : Int) < (n : Int)) = false := by simp; omega
        obtain ⟨hall, hmk⟩ := mkR_good HQ.out (fun j hj => HA.out j hj (by rw [HN.out] at hj; omega))
        have HALL := Lib.hid hall
        have HMK := Lib.hid hmk
        clear hall hmk HA
        have hcl := CloneE_any wr B A n c l (hI.at_ 0 rfl : _ ∧ _).1 HN.out hn2 (hI.at_ 0 rfl : _ ∧ B ≤ wr.heap.size).2
        have hk9 := (hI.at_ 1 rfl : _ ∧ w.heap.size ≤ wr.heap.size)
        clear hI
        go_upto_region 10 with (go_at_call 34; refine hcl.mono ?_; clear hcl; rintro e w3 ⟨A3, c3, rfl, hb3, hO3⟩)
        have hB3 : Below w.heap.size w w3 := hk9.1.trans (hb3.mono hk9.2)
        have hsc := SortC_any w w3 A3 n c3 l H32.out HN.out (by have := HQ.out; rw [HN.out] at this; omega) hB3 (hO3.less hk9.2)
        clear hO3 hb3 hB3
        go_upto_region 11 with (go_at_call 35; refine hsc.mono ?_; clear hsc; rintro e w4 ⟨rfl, d, hp, hs, hO4, hB4⟩)
        obtain ⟨hm1, hm2⟩ := mk_sorted hp hs (by have := HQ.out; omega) H32.out HALL.out
        have hdl : d.length = n := by rw [hp.length_eq]; exact HN.out
        have hd32 : ∀ x ∈ d, E32 x := fun x hx => H32.out x (hp.subset hx)
        have HV : Hid (Els w4 w4.heap.size 33 A3 n (d.map entC)) := Lib.hid (Els.of hO4 (fun y hy => by obtain ⟨v, hv, rfl⟩ := List.mem_map.1 hy; exact entC_len (hd32 v hv)) (by rw [List.length_map]; exact hdl))
        have hval := Valid_any w4 w4.heap.size A3 n c3 d HV.out hd32 hdl hn2 (Nat.le_refl _)
        have HDL := Lib.hid hdl
        clear hp hs hdl hd32 HV
        cases hr : refM [] l with
        | some s =>
          obtain ⟨rfl, hv⟩ := hm1 s hr
          have HF : Hid (mkR l = (d, 0)) := Lib.hid (by rw [HMK.out, hr])
          rw [hv] at hval
          clear hm1 hm2 hr hv
          go_wp2_with (go_at_call 14; refine hval.mono ?_; clear hval; rintro e w5 ⟨rfl, hb5⟩; have hO5 := hO4.kept hb5; have hB5 := hB4.trans (hb5.mono hB4.size); clear hO4 hB4 hb5)
          go_ret2
          rw [HF.out]
          have hO6 := hO5
          rw [← HDL.out] at hO6
          exact ⟨A3, c3, by rw [HDL.out]; rfl, hO6, hB5⟩
        | none =>
          have hv := hm2 hr
          have HF : Hid (mkR l = ([], 5)) := Lib.hid (by rw [HMK.out, hr])
          rw [hv] at hval
          clear hm1 hm2 hr hv hO4
          go_wp2_with (go_at_call 14; refine hval.mono ?_; clear hval; rintro e w5 ⟨rfl, hb5⟩; have hB5 := hB4.trans (hb5.mono hB4.size); clear hB4 hb5)
          go_ret2
          rw [HF.out]
          exact ResPost.nil rfl hB5
end Go.Proofs.YtipepcjiogifaaaDoor

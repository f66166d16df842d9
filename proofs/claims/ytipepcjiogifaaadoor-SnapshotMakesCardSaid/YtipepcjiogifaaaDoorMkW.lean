/- The law SnapshotMakes. -/
import Derived.Test.YtipepcjiogifaaaDoorMkR
import Derived.Test.YtipepcjiogifaaaDoorSnap5
set_option linter.unusedSimpArgs false
set_option linter.unusedVariables false
set_option maxRecDepth 100000
namespace Go.Proofs.YtipepcjiogifaaaDoor
open Go Go.RowKit Go.Adm
theorem lightM (w : World) (A : Option Addr) (n c : Nat) : Calls Tryd.prog 5 #[.slice A n c] w fun e w' => e = .returned (.bool (decide ((n : Int) ≤ 200))) ∧ w' = w := by
  go_enter Tryd.func5, Tryd.ntmps5
  go_wp2
  all_goals (go_ret; exact ⟨ret_bool (by simp_all), rfl⟩)
theorem resM {r : List E} {err : Int} {tid : TypeId} {w : World} {e : Ending} {w' : World} (h : ResPost entC 33 r err tid w e w') (h32 : ∀ c ∈ r, E32 c) : ∃ A c, e = .returned (.tuple #[.slice A r.length c, .int .i64 err]) ∧ Els w' w'.heap.size 33 A r.length (r.map entC) ∧ Below w.heap.size w w' := by
  obtain ⟨A, c, h1, h2, h3⟩ := h
  exact ⟨A, c, h1, Els.of h2 (fun y hy => by obtain ⟨v, hv, rfl⟩ := List.mem_map.1 hy; exact entC_len (h32 v hv)) (by rw [List.length_map]), h3⟩
theorem lookZ_32 {l : List E} (h : ∀ x ∈ l, E32 x) (k : ByteArray) : (lookZ z32 l k).length = 32 := by
  unfold lookZ
  cases hq : lookR l k with
  | none => rfl
  | some d =>
    obtain ⟨y, hy, -, rfl⟩ := lookR_some hq
    exact (h y hy).1
theorem cell_allM {w : World} {g : Nat} {t : TypeId} {cs : List Value} (h : Cells w g t cs) : ∀ j u, cs[j]? = some u → w.cell? ((⟨g, 0, none⟩ : Addr).add j) = some u := Cells.sub h 0 (fun j u hu => by rwa [Nat.zero_add])
set_option maxHeartbeats 6400000 in
theorem walkMakes (w : World) (m : Int) (hm : w.cell? ⟨0, 0, none⟩ = some (.int .i64 m)) (B : Nat) (A : Option Addr) (n c : Nat) (l : List E) (hl : Els w B 33 A n (l.map entC)) (h32 : ∀ e ∈ l, E32 e) (hn : l.length = n) (path : ByteArray) (hB : B ≤ w.heap.size) :
    Calls Tryd.prog 4 #[.slice A n c, .string path] w fun e w' => e = .returned (.bool true) ∧ Below w.heap.size w w' := by
  have hgm : 0 < w.heap.size := World.block_lt_of_cell? w _ hm
  have hR : All w [.low (.els B 33 A n (l.map entC)), .kept w w.heap.size] := ⟨⟨hl, hB⟩, ⟨Below.refl _ _, Nat.le_refl _⟩, trivial⟩
  have HM : Hid (∀ W, Below w.heap.size w W → W.cell? ⟨0, 0, none⟩ = some (.int .i64 m)) := Lib.hid (fun W hb => (hb.cell hgm).trans hm)
  have HN := Lib.hid hn
  have H32 := Lib.hid h32
  have hlt := lightM w A n c
  clear hl h32 hn hm hgm
  by_cases q1 : n ≤ 200
  · have d1 : decide ((n : Int) ≤ 200) = true := by simp; omega
    rw [d1] at hlt
    obtain ⟨hr32, hrl⟩ := mkR_32 H32.out
    have HR32 := Lib.hid hr32
    have HVR := Lib.hid (mkR_valid H32.out)
    have hdz := lookZ_32 H32.out path
    have HDZ : Hid (((lookZ z32 l path).map bv).length = 32) := Lib.hid (by rw [List.length_map]; exact hdz)
    have HEQ : Hid (∀ W, (binOp .eql 40 (.agg ((lookZ z32 l path).map bv).toArray) (.agg ((lookZ z32 l path).map bv).toArray)).run Tryd.prog W = .ok (.bool true) W) := Lib.hid (fun W => (eq_dg W _ _ hdz hdz).trans (by simp))
    have HMK : Hid (∀ W, All W [.low (.els B 33 A n (l.map entC)), .kept w w.heap.size] → Calls Tryd.prog 16 #[.slice A n c] W (ResPost entC 33 (mkR l).1 (mkR l).2 50 W)) := Lib.hid (fun W h => Make_any W B A n c l (h.at_ 0 rfl : _ ∧ _).1 H32.out HN.out (by omega) (h.at_ 0 rfl : _ ∧ B ≤ W.heap.size).2)
    have HRM : Hid (∀ W, All W [.low (.els B 33 A n (l.map entC)), .kept w w.heap.size] → Calls Tryd.prog 17 #[.slice A n c] W (ResPost entC 33 (mkR l).1 (mkR l).2 50 W)) := Lib.hid (fun W h => rMake_any W m (HM.out W (h.at_ 1 rfl : _ ∧ _).1) B A n c l (h.at_ 0 rfl : _ ∧ _).1 H32.out HN.out (by omega) (h.at_ 0 rfl : _ ∧ B ≤ W.heap.size).2)
    have HPL : Hid (∀ W, All W [.low (.els B 33 A n (l.map entC)), .kept w w.heap.size] → Calls Tryd.prog 18 #[.slice A n c, .string path] W fun e w' => e = .returned (.tuple #[.agg ((lookZ z32 l path).map bv).toArray, .bool (lookR l path).isSome]) ∧ Below W.heap.size W w') := Lib.hid (fun W h => pLookup_any W B A n c l path (h.at_ 0 rfl : _ ∧ _).1 H32.out HN.out (by omega) (h.at_ 0 rfl : _ ∧ B ≤ W.heap.size).2)
    have HRL : Hid (∀ W, All W [.low (.els B 33 A n (l.map entC)), .kept w w.heap.size] → Calls Tryd.prog 19 #[.slice A n c, .string path] W fun e w' => e = .returned (.tuple #[.agg ((lookZ z32 l path).map bv).toArray, .bool (lookR l path).isSome]) ∧ Below W.heap.size W w') := Lib.hid (fun W h => Lookup_any W B A n c l path (h.at_ 0 rfl : _ ∧ _).1 H32.out HN.out (by omega) (h.at_ 0 rfl : _ ∧ B ≤ W.heap.size).2)
    have HVA : Hid (∀ W, All W [.low (.els B 33 A n (l.map entC)), .kept w w.heap.size] → Calls Tryd.prog 14 #[.slice A n c] W fun e w' => e = .returned (.bool (validB l)) ∧ Below W.heap.size W w') := Lib.hid (fun W h => Valid_any W B A n c l (h.at_ 0 rfl : _ ∧ _).1 H32.out HN.out (by omega) (h.at_ 0 rfl : _ ∧ B ≤ W.heap.size).2)
    have HVB : Hid (∀ W, All W [.low (.els B 33 A n (l.map entC)), .kept w w.heap.size] → Calls Tryd.prog 20 #[.slice A n c] W fun e w' => e = .returned (.bool (validB l)) ∧ Below W.heap.size W w') := Lib.hid (fun W h => refValid_any W m (HM.out W (h.at_ 1 rfl : _ ∧ _).1) B A n c l (h.at_ 0 rfl : _ ∧ _).1 H32.out HN.out (by omega) (h.at_ 0 rfl : _ ∧ B ≤ W.heap.size).2)
    clear hr32 hdz
    generalize (mkR l).1 = r at *
    generalize (mkR l).2 = er at *
    generalize (lookZ z32 l path) = dz at *
    generalize (lookR l path).isSome = bz at *
    generalize validB l = vl at *
    have h1 := HMK.out w hR
    have hlt2 := hlt.mono (fun e w' (h : _ ∧ w' = w) => (⟨h.1, h.2.symm⟩ : _ ∧ w = w'))
    go_enter Tryd.func4, Tryd.ntmps4
    go_upto_region 3 with (go_at_call 5; refine hlt2.mono ?_; clear hlt hlt2; rintro e w' ⟨rfl, rfl⟩)
    go_upto_region 4 with (go_at_call 16; refine h1.mono ?_; clear h1; intro e w3 h; obtain ⟨A5, c5, rfl, hE5, hb3⟩ := resM h HR32.out; clear h; have hW3 := (hR.call hb3).cons (r := .low (.els w3.heap.size 33 A5 r.length (r.map entC))) ⟨hE5, Nat.le_refl _⟩; clear hR hE5 hb3)
    have h2 := HRM.out w3 hW3.2
    go_upto_region 5 with (go_at_call 17; refine h2.mono ?_; clear h2; intro e w4 h; obtain ⟨A7, c7, rfl, hE7, hb4⟩ := resM h HR32.out; clear h; have hW4 := (hW3.call hb4).cons (r := .low (.els w4.heap.size 33 A7 r.length (r.map entC))) ⟨hE7, Nat.le_refl _⟩; clear hE7 hb4)
    obtain ⟨B5, hB5⟩ : ∃ s, s = w3.heap.size := ⟨_, rfl⟩
    rw [← hB5] at hW4
    clear hB5 hW3
    have h3 := HPL.out w4 hW4.2.2
    go_upto_region 6 with (first
      | (go_at_call 18; refine h3.mono ?_; clear h3; rintro e w5 ⟨rfl, hb5⟩; have hW5 := hW4.call hb5; clear hb5)
      | (refine wl_store_at (hW5.new (l := z32.map bv) _ 40 rfl rfl) 0 rfl 40 (.tmp 9) (.tmp 30) rfl w5.heap.size _ _ (dz.map bv) rfl rfl rfl (by rw [HDZ.out]; rfl) (by rw [HDZ.out]; kernel_rfl) (bv_one _) ⟨fun g e => (by have := (hW5.at_ 0 rfl : _ ∧ w4.heap.size ≤ w5.heap.size).2; injection e with e; subst e; exact this), fun g e => (by have := (hW5.at_ 1 rfl : _ ∧ B5 ≤ w5.heap.size).2; injection e with e; subst e; exact this), fun g e => (by have := (hW5.at_ 2 rfl : _ ∧ B ≤ w5.heap.size).2; injection e with e; subst e; exact this), fun g e => (by have := (hW5.at_ 3 rfl : _ ∧ w.heap.size ≤ w5.heap.size).2; injection e with e; subst e; exact this), trivial⟩ ?_; intro w6 hW6 hs6))
    simp only [List.set_cons_zero] at hW6
    obtain ⟨gx, hgx⟩ : ∃ s, s = w5.heap.size := ⟨_, rfl⟩
    obtain ⟨B7, hB7⟩ : ∃ s, s = w4.heap.size := ⟨_, rfl⟩
    rw [← hgx, ← hB7] at hW6
    rw [← hgx]
    clear hgx hB7 hW5 hW4 hs6
    have h4 := HRL.out w6 hW6.2.2.2
    have hgx6 := Cells.lt (hW6.at_ 0 rfl)
    go_upto_region 7 with (first
      | (go_at_call 19; refine h4.mono ?_; clear h4; rintro e w7 ⟨rfl, hb7⟩; have hW7 := hW6.call hb7; have hs7 := hb7.size; clear hb7)
      | (refine wl_store_at (hW7.new (l := z32.map bv) _ 40 rfl rfl) 0 rfl 40 (.tmp 11) (.tmp 36) rfl w7.heap.size _ _ (dz.map bv) rfl rfl rfl (by rw [HDZ.out]; rfl) (by rw [HDZ.out]; kernel_rfl) (bv_one _) ⟨fun e => (by injection e with e; omega), fun g e => (by have := (hW7.at_ 1 rfl : _ ∧ B7 ≤ w7.heap.size).2; injection e with e; subst e; exact this), fun g e => (by have := (hW7.at_ 2 rfl : _ ∧ B5 ≤ w7.heap.size).2; injection e with e; subst e; exact this), fun g e => (by have := (hW7.at_ 3 rfl : _ ∧ B ≤ w7.heap.size).2; injection e with e; subst e; exact this), fun g e => (by have := (hW7.at_ 4 rfl : _ ∧ w.heap.size ≤ w7.heap.size).2; injection e with e; subst e; exact this), trivial⟩ ?_; intro w8 hW8 hs8))
    simp only [List.set_cons_zero] at hW8
    obtain ⟨gy, hgy⟩ : ∃ s, s = w7.heap.size := ⟨_, rfl⟩
    rw [← hgy] at hW8 ⊢
    clear hgy hW7 hW6 hs8 hs7 hgx6
    have hI : All w8 [.cells gy 40 (dz.map bv), .cells gx 40 (dz.map bv), .low (.els B7 33 A7 r.length (r.map entC)), .low (.els B5 33 A5 r.length (r.map entC)), .low (.els B 33 A n (l.map entC)), .kept w w.heap.size] := hW8
    have haw := awake_any w8
    have HSM : Hid (∀ W, All W [.cells gy 40 (dz.map bv), .cells gx 40 (dz.map bv), .low (.els B7 33 A7 r.length (r.map entC)), .low (.els B5 33 A5 r.length (r.map entC)), .low (.els B 33 A n (l.map entC)), .kept w w.heap.size] → Calls Tryd.prog 11 #[.slice A5 r.length c5, .slice A7 r.length c7] W fun e w' => e = .returned (.bool true) ∧ Below W.heap.size W w') := Lib.hid (fun W h => Same_true W W.heap.size A5 A7 r.length c5 c7 r ((h.at_ 3 rfl : _ ∧ _).1.mono (h.at_ 3 rfl : _ ∧ B5 ≤ W.heap.size).2) ((h.at_ 2 rfl : _ ∧ _).1.mono (h.at_ 2 rfl : _ ∧ B7 ≤ W.heap.size).2) HR32.out rfl (by omega) (Nat.le_refl _))
    have HVC : Hid (er = 0 → ∀ W, All W [.cells gy 40 (dz.map bv), .cells gx 40 (dz.map bv), .low (.els B7 33 A7 r.length (r.map entC)), .low (.els B5 33 A5 r.length (r.map entC)), .low (.els B 33 A n (l.map entC)), .kept w w.heap.size] → Calls Tryd.prog 14 #[.slice A5 r.length c5] W fun e w' => e = .returned (.bool true) ∧ Below W.heap.size W w') := Lib.hid (fun h0 W h => by
      have hv := Valid_any W B5 A5 r.length c5 r (h.at_ 3 rfl : _ ∧ _).1 HR32.out rfl (by omega) (h.at_ 3 rfl : _ ∧ B5 ≤ W.heap.size).2
      rw [HVR.out h0] at hv
      exact hv)
    clear hW8
    have dv : (vl == vl) = true := by simp
    have db : (bz == bz) = true := by simp
    have de : (er == er) = true := by simp
    by_cases he : er = 0
    · have hvc := HVC.out he
      have dn : (er != 0) = false := by simpa using he
      clear he HVC
      go_wp2_with (first
        | (go_at_call 15; refine haw.mono ?_; clear haw; rintro e w9 ⟨rfl, hb9⟩; have hI9 := hI.call hb9; have hv1 := HVA.out w9 hI9.2.2.2.2; clear hb9 hI)
        | (go_at_call 14; have z9 := hv1; clear z9; refine hv1.mono ?_; clear hv1; rintro e wa ⟨rfl, hba⟩; have hIa := hI9.call hba; have hv2 := HVB.out wa hIa.2.2.2.2; clear hba hI9)
        | (go_at_call 20; refine hv2.mono ?_; clear hv2; rintro e wb ⟨rfl, hbb⟩; have hIb := hIa.call hbb; have hsm := HSM.out wb hIb; clear hbb hIa)
        | (go_at_call 11; refine hsm.mono ?_; clear hsm; rintro e wc ⟨rfl, hbc⟩; have hIc := hIb.call hbc; have hv3 := hvc wc hIc; clear hbc hIb)
        | (refine wl_met' rfl ?_; refine wp_load_any 40 (.tmp 9) rfl ⟨gx, 0, none⟩ rfl (dz.map bv) _ (cell_allM (hIc.at_ 1 rfl)) Tryd.underlying40 rfl (by rw [HDZ.out]; kernel_rfl) ?_)
        | (refine wl_met' rfl ?_; refine wp_load_any 40 (.tmp 11) rfl ⟨gy, 0, none⟩ rfl (dz.map bv) _ (cell_allM (hIc.at_ 0 rfl)) Tryd.underlying40 rfl (by rw [HDZ.out]; kernel_rfl) ?_)
        | (refine wl_met' rfl ?_; refine wp_eql (.tmp 57) (.tmp 58) rfl (.bool true) (HEQ.out _) (by go_simp) ?_)
        | (go_at_call 14; refine hv3.mono ?_; clear hv3; rintro e wd ⟨rfl, hbd⟩; have hId := hIc.call hbd; clear hbd hIc))
      go_ret
      exact ⟨ret_bool (by simp), (hId.at_ 5 rfl : _ ∧ _).1⟩
    · have dn : (er != 0) = true := by simpa using he
      clear he HVC
      go_wp2_with (first
        | (go_at_call 15; refine haw.mono ?_; clear haw; rintro e w9 ⟨rfl, hb9⟩; have hI9 := hI.call hb9; have hv1 := HVA.out w9 hI9.2.2.2.2; clear hb9 hI)
        | (go_at_call 14; refine hv1.mono ?_; clear hv1; rintro e wa ⟨rfl, hba⟩; have hIa := hI9.call hba; have hv2 := HVB.out wa hIa.2.2.2.2; clear hba hI9)
        | (go_at_call 20; refine hv2.mono ?_; clear hv2; rintro e wb ⟨rfl, hbb⟩; have hIb := hIa.call hbb; have hsm := HSM.out wb hIb; clear hbb hIa)
        | (go_at_call 11; refine hsm.mono ?_; clear hsm; rintro e wc ⟨rfl, hbc⟩; have hIc := hIb.call hbc; clear hbc hIb)
        | (refine wl_met' rfl ?_; refine wp_load_any 40 (.tmp 9) rfl ⟨gx, 0, none⟩ rfl (dz.map bv) _ (cell_allM (hIc.at_ 1 rfl)) Tryd.underlying40 rfl (by rw [HDZ.out]; kernel_rfl) ?_)
        | (refine wl_met' rfl ?_; refine wp_load_any 40 (.tmp 11) rfl ⟨gy, 0, none⟩ rfl (dz.map bv) _ (cell_allM (hIc.at_ 0 rfl)) Tryd.underlying40 rfl (by rw [HDZ.out]; kernel_rfl) ?_)
        | (refine wl_met' rfl ?_; refine wp_eql (.tmp 57) (.tmp 58) rfl (.bool true) (HEQ.out _) (by go_simp) ?_))
      go_ret
      exact ⟨ret_bool (by simp), (hIc.at_ 5 rfl : _ ∧ _).1⟩
  · have d1 : decide ((n : Int) ≤ 200) = false := by simp; omega
    rw [d1] at hlt
    go_enter Tryd.func4, Tryd.ntmps4
    go_wp2_with (go_at_call 5; refine hlt.mono ?_; clear hlt; rintro e w ⟨rfl, rfl⟩)
    go_ret
    exact ⟨rfl, Below.refl _ _⟩
end Go.Proofs.YtipepcjiogifaaaDoor

/- The law SnapshotSelects. -/
import Derived.Test.YtipepcjiogifaaaDoorPtV
import Derived.Test.YtipepcjiogifaaaDoorSnap5
import Derived.Test.YtipepcjiogifaaaDoorSnap9
set_option linter.unusedSimpArgs false
set_option linter.unusedVariables false
set_option maxRecDepth 100000
namespace Go.Adm
open Go Go.RowKit
def patsL : List ByteArray := [⟨#[42]⟩, ⟨#[42, 42]⟩, ⟨#[97]⟩, ⟨#[97, 42]⟩, ⟨#[115, 114, 99, 47, 42]⟩, ⟨#[115, 114, 99, 47, 42, 42]⟩, ⟨#[42, 42, 46, 99]⟩, ⟨#[63]⟩, ⟨#[111, 117, 116, 47, 42]⟩, ⟨#[42, 47, 97]⟩, ⟨#[97, 46, 99]⟩, ⟨#[42, 42, 47, 97]⟩, ⟨#[111, 117, 116]⟩, ⟨#[98, 42, 42]⟩]
def dirL : List ByteArray := [⟨#[]⟩, ⟨#[]⟩, ⟨#[115, 114, 99]⟩, ⟨#[111, 117, 116]⟩, ⟨#[97]⟩, ⟨#[115, 114, 99, 47, 97]⟩]
theorem pats_small {p : ByteArray} (h : p ∈ patsL) : p.size ≤ 10 := by
  have := List.all_eq_true.1 (show (patsL.all fun p => decide (p.size ≤ 10)) = true by decide +kernel) p h
  simpa using this
theorem dirl_small {p : ByteArray} (h : p ∈ dirL) : p.size ≤ 10 := by
  have := List.all_eq_true.1 (show (dirL.all fun p => decide (p.size ≤ 10)) = true by decide +kernel) p h
  simpa using this
theorem resV {r : List E} {err : Int} {tid : TypeId} {w : World} {e : Ending} {w' : World} (h : ResPost entC 33 r err tid w e w') (h32 : ∀ c ∈ r, E32 c) : ∃ A c, e = .returned (.tuple #[.slice A r.length c, .int .i64 err]) ∧ Els w' w'.heap.size 33 A r.length (r.map entC) ∧ Below w.heap.size w w' := by
  obtain ⟨A, c, h1, h2, h3⟩ := h
  exact ⟨A, c, h1, Els.of h2 (fun y hy => by obtain ⟨v, hv, rfl⟩ := List.mem_map.1 hy; exact entC_len (h32 v hv)) (by rw [List.length_map]), h3⟩
theorem rowV {r : List E} {tid : TypeId} {w : World} {e : Ending} {w' : World} (h : RowPost r tid w e w') (h32 : ∀ c ∈ r, E32 c) : ∃ A c, e = .returned (.slice A r.length c) ∧ Els w' w'.heap.size 33 A r.length (r.map entC) ∧ Below w.heap.size w w' := by
  obtain ⟨A, c, h1, h2, h3⟩ := h
  exact ⟨A, c, h1, Els.of h2 (fun y hy => by obtain ⟨v, hv, rfl⟩ := List.mem_map.1 hy; exact entC_len (h32 v hv)) (by rw [List.length_map]), h3⟩
end Go.Adm
namespace Go.Proofs.YtipepcjiogifaaaDoor
open Go Go.RowKit Go.Adm
theorem lightV (w : World) (A : Option Addr) (n c : Nat) : Calls Tryd.prog 5 #[.slice A n c] w fun e w' => e = .returned (.bool (decide ((n : Int) ≤ 200))) ∧ w = w' := by
  go_enter Tryd.func5, Tryd.ntmps5
  go_wp2
  all_goals (go_ret; exact ⟨ret_bool (by simp_all), rfl⟩)
theorem TPattern_any (w : World) (gt B : Nat) (A : Option Addr) (nl cl at_ : Nat) (L : List Int) (hc : Cells w gt 27 [.slice A nl cl, .int .i64 at_]) (hL : Rd w B 1 A nl (L.map iv)) (hB : B ≤ gt) (hat : at_ ≤ 900000) :
    Calls Tryd.prog 6 #[.pointer (some ⟨gt, 0, none⟩)] w fun e w' => ∃ p : ByteArray, p.size ≤ 10 ∧ e = .returned (.string p) ∧ TapeTo gt A nl cl (at_ + 1) w w' := by
  have hlt := Cells.lt hc
  go_enter Tryd.func6, Tryd.ntmps6
  go_wp2_with fail
  refine (Pick_any _ gt B A nl cl at_ L (hc.alloc _) (hL.alloc (by omega) _) hB (by omega) patsL w.heap.size 14 9 (Cells.new' w 9 _ rfl rfl) (by omega) (by decide) (by decide) 14 rfl).mono ?_
  rintro e w3 ⟨d, hd, rfl, hc3, hg3⟩
  go_wp2_with fail
  go_ret
  exact ⟨d, pats_small hd, rfl, hc3, (World.grownBy_alloc _ _ _).trans hg3⟩
theorem TDirectory_any (w : World) (gt B : Nat) (A : Option Addr) (nl cl at_ : Nat) (L : List Int) (hc : Cells w gt 27 [.slice A nl cl, .int .i64 at_]) (hL : Rd w B 1 A nl (L.map iv)) (hB : B ≤ gt) (hat : at_ ≤ 900000) :
    Calls Tryd.prog 7 #[.pointer (some ⟨gt, 0, none⟩)] w fun e w' => ∃ p : ByteArray, p.size ≤ 10 ∧ e = .returned (.string p) ∧ TapeTo gt A nl cl (at_ + 1) w w' := by
  have hlt := Cells.lt hc
  go_enter Tryd.func7, Tryd.ntmps7
  go_wp2_with fail
  refine (Pick_any _ gt B A nl cl at_ L (hc.alloc _) (hL.alloc (by omega) _) hB (by omega) dirL w.heap.size 6 9 (Cells.new' w 9 _ rfl rfl) (by omega) (by decide) (by decide) 6 rfl).mono ?_
  rintro e w3 ⟨d, hd, rfl, hc3, hg3⟩
  go_wp2_with fail
  go_ret
  exact ⟨d, dirl_small hd, rfl, hc3, (World.grownBy_alloc _ _ _).trans hg3⟩
set_option maxHeartbeats 12800000 in
theorem walkSelects (w : World) (m : Int) (hm : w.cell? ⟨0, 0, none⟩ = some (.int .i64 m)) (B : Nat) (A : Option Addr) (n c : Nat) (l : List E) (hl : Els w B 33 A n (l.map entC)) (h32 : ∀ e ∈ l, E32 e) (hn : l.length = n) (T : Option Addr) (nl cl : Nat) (L : List Int) (hL : Rd w B 1 T nl (L.map iv)) (hB : B ≤ w.heap.size) :
    Calls Tryd.prog 3 #[.slice A n c, .slice T nl cl] w fun e w' => e = .returned (.bool true) ∧ Below w.heap.size w w' := by
  have hgm : 0 < w.heap.size := World.block_lt_of_cell? w _ hm
  have hR : All w [.low (.els B 33 A n (l.map entC)), .kept w w.heap.size] := ⟨⟨hl, hB⟩, ⟨Below.refl _ _, Nat.le_refl _⟩, trivial⟩
  have HM : Hid (∀ W, Below w.heap.size w W → W.cell? ⟨0, 0, none⟩ = some (.int .i64 m)) := Lib.hid (fun W hb => (hb.cell hgm).trans hm)
  have HN := Lib.hid hn
  have H32 := Lib.hid h32
  have hlt := lightV w A n c
  clear hl h32 hn hm hgm
  by_cases q1 : n ≤ 200
  · have d1 : decide ((n : Int) ≤ 200) = true := by simp; omega
    rw [d1] at hlt
    clear d1
    have hc0 : Cells (w.alloc (.cells #[.slice T nl cl, .int .i64 ((0 : Nat) : Int)] 27)) w.heap.size 27 [.slice T nl cl, .int .i64 ((0 : Nat) : Int)] := Cells.new' w _ _ rfl rfl
    have hL1 := hL.alloc hB (.cells #[.slice T nl cl, .int .i64 ((0 : Nat) : Int)] 27)
    have hRn := hR.alloc (.cells #[.slice T nl cl, .int .i64 ((0 : Nat) : Int)] 27)
    have hs0 : (w.alloc (.cells #[.slice T nl cl, .int .i64 ((0 : Nat) : Int)] 27)).heap.size = w.heap.size + 1 := by simp
    go_enter Tryd.func3, Tryd.ntmps3
    go_upto_region 4 with (go_at_call 5; refine hlt.mono ?_; clear hlt; rintro e w' ⟨rfl, rfl⟩)
    refine wp_genP (Pr := fun W => Cells W w.heap.size 27 [.slice T nl cl, .int .i64 ((0 : Nat) : Int)] ∧ Rd W B 1 T nl (L.map iv) ∧ All W [.low (.els B 33 A n (l.map entC)), .kept w w.heap.size] ∧ W.heap.size = w.heap.size + 1) ⟨hc0, hL1, hRn, hs0⟩ ?_
    clear hc0 hL1 hRn hs0 hR hL
    rintro W0 ⟨hc0, hL0, hR0, hs0⟩
    have hs0' : w.heap.size + 1 ≤ W0.heap.size := by omega
    have HL : Hid (∀ W, W0.grownBy W (some w.heap.size) → Rd W B 1 T nl (L.map iv)) := Lib.hid (fun W hg => hL0.keep fun p hp => World.cell?_of_block (hg.block p.block (by omega) (fun e => by have := Option.some.inj e; omega)))
    have HRL : Hid (∀ W, W0.grownBy W (some w.heap.size) → All W [.low (.els B 33 A n (l.map entC)), .kept w w.heap.size]) := Lib.hid (fun W hg => All.step hg hR0 ⟨fun g' e => by injection e with e; simp only [Low.els]; omega, fun g' e => by injection e with e; omega, trivial⟩)
    have ht1 := TPattern_any W0 w.heap.size B T nl cl 0 L hc0 hL0 hB (by omega)
    clear hc0 hL0 hR0 hs0
    go_upto_region 5 with (first
      | (go_at_call 6; refine ht1.mono ?_; clear ht1; rintro e v1 ⟨pat, hpat, rfl, hc1, hg1⟩; have ht2 := TDirectory_any v1 w.heap.size B T nl cl (0 + 1) L hc1 (HL.out _ hg1) hB (by omega))
      | (go_at_call 7; refine ht2.mono ?_; clear ht2; rintro e v2 ⟨fr, hfr, rfl, hc2, hg2⟩; have ht3 := TDirectory_any v2 w.heap.size B T nl cl (0 + 1 + 1) L hc2 (HL.out _ (hg1.trans hg2)) hB (by omega))
      | (go_at_call 7; refine ht3.mono ?_; clear ht3; rintro e v3 ⟨dd, hdd, rfl, hc3, hg3⟩))
    have hg := (hg1.trans hg2).trans hg3
    have ht4 := TSnap_any v3 w.heap.size B T nl cl (0 + 1 + 1 + 1) L hc3 (HL.out _ hg) hB (by omega) 8 (by omega)
    clear hc1 hc2 hc3 HL hg1 hg2 hg3
    go_upto_region 6 with (go_at_call 8; refine ht4.mono ?_; clear ht4; rintro e v4 ⟨l1, p1, k1, m1, hl1, hm1, rfl, hgl, ho1, hc1, hgr1⟩)
    have hgg := hg.trans hgr1
    have hI0 : All v4 [.low (.els v4.heap.size 33 p1 l1.length (l1.map entC)), .low (.els B 33 A n (l.map entC)), .kept w w.heap.size] := ⟨⟨Els.of ho1 (fun y hy => by obtain ⟨v, hv, rfl⟩ := List.mem_map.1 hy; exact entC_len (hgl.each v hv)) (by rw [List.length_map]), Nat.le_refl _⟩, HRL.out _ hgg⟩
    have H321 := Lib.hid hgl.each
    obtain ⟨B1, hB1⟩ : ∃ b, b = v4.heap.size := ⟨_, rfl⟩
    obtain ⟨gs, hgs⟩ : ∃ b, b = v4.heap.size := ⟨_, rfl⟩
    have hJ := hI0.new (l := [.slice A n c, .slice p1 l1.length k1]) _ 22 hgs rfl
    rw [← hB1] at hJ
    clear hB1 hI0 ho1 hc1 hgr1 hgl hgg hg HRL
    try simp only [← hgs]
    refine wp_gen hJ ?_
    clear hJ hgs
    intro W5 hJ
    have HMV : Hid (∀ (lx : List E) Ax nx cx Bx, (∀ e ∈ lx, E32 e) → lx.length = nx → nx ≤ 1000 → ∀ W, Els W Bx 33 Ax nx (lx.map entC) → Bx ≤ W.heap.size → Calls Tryd.prog 9 #[.slice Ax nx cx, .string fr, .string dd] W (ResPost entC 33 (mvR fr dd lx).1 (mvR fr dd lx).2 50 W)) := Lib.hid (fun lx Ax nx cx Bx h1 h2 h3 W h4 h5 => Move_any W Bx Ax nx cx lx h4 h1 h2 (by omega) fr dd (by omega) (by omega) h5)
    have HMR : Hid (∀ (lx : List E) Ax nx cx Bx, (∀ e ∈ lx, E32 e) → lx.length = nx → nx ≤ 1000 → ∀ W, Below w.heap.size w W → Els W Bx 33 Ax nx (lx.map entC) → Bx ≤ W.heap.size → Calls Tryd.prog 10 #[.slice Ax nx cx, .string fr, .string dd] W (ResPost entC 33 (mvR fr dd lx).1 (mvR fr dd lx).2 50 W)) := Lib.hid (fun lx Ax nx cx Bx h1 h2 h3 W hb h4 h5 => refMove_any W m (HM.out W hb) Bx Ax nx cx lx h4 h1 h2 (by omega) fr dd h5)
    have HSE : Hid (∀ (lx : List E) Ax nx cx Bx, (∀ e ∈ lx, E32 e) → lx.length = nx → nx ≤ 1000 → ∀ W, Els W Bx 33 Ax nx (lx.map entC) → Bx ≤ W.heap.size → Calls Tryd.prog 12 #[.slice Ax nx cx, .string pat] W (RowPost (selL pat lx) 50 W)) := Lib.hid (fun lx Ax nx cx Bx h1 h2 h3 W h4 h5 => Select_any W Bx Ax nx cx lx h4 h1 h2 (by omega) pat (by omega) h5)
    have HSR : Hid (∀ (lx : List E) Ax nx cx Bx, (∀ e ∈ lx, E32 e) → lx.length = nx → nx ≤ 1000 → ∀ W, Below w.heap.size w W → Els W Bx 33 Ax nx (lx.map entC) → Bx ≤ W.heap.size → Calls Tryd.prog 13 #[.slice Ax nx cx, .string pat] W (RowPost (selL pat lx) 50 W)) := Lib.hid (fun lx Ax nx cx Bx h1 h2 h3 W hb h4 h5 => refSelect_any W m (HM.out W hb) Bx Ax nx cx lx h4 h1 h2 (by omega) pat (by omega) h5)
    clear hpat hfr hdd
    go_loopw [32] (fun i wr => ∃ k : Nat, k ≤ 2 ∧ i = .int .i64 k ∧ All wr [.cells gs 22 [.slice A n c, .slice p1 l1.length k1], .low (.els B1 33 p1 l1.length (l1.map entC)), .low (.els B 33 A n (l.map entC)), .kept w w.heap.size]) (fun i _ => 2 - (intOf i).toNat)
    case atStart => exact ⟨0, by omega, rfl, hJ⟩
    case round =>
      clear hJ
      obtain ⟨k, hk, rfl, hI⟩ := hrel
      by_cases hlt : k < 2
      · have d1 : decide ((k : Int) < 2) = true := by simp; omega
        obtain ⟨Ax, nx, cx, lx, Bx, hcell, HEL, hx32, hnx, hn1⟩ : ∃ (Ax : Option Addr) (nx cx : Nat) (lx : List E) (Bx : Nat), ([.slice A n c, .slice p1 l1.length k1] : List Value)[k]? = some (.slice Ax nx cx) ∧ Hid (∀ W, All W [.cells gs 22 [.slice A n c, .slice p1 l1.length k1], .low (.els B1 33 p1 l1.length (l1.map entC)), .low (.els B 33 A n (l.map entC)), .kept w w.heap.size] → Els W Bx 33 Ax nx (lx.map entC) ∧ Bx ≤ W.heap.size) ∧ (∀ e ∈ lx, E32 e) ∧ lx.length = nx ∧ nx ≤ 1000 := by
          rcases (by omega : k = 0 ∨ k = 1) with rfl | rfl
          · exact ⟨A, n, c, l, B, rfl, Lib.hid (fun W h => h.at_ 2 rfl), H32.out, HN.out, by omega⟩
          · exact ⟨p1, l1.length, k1, l1, B1, rfl, Lib.hid (fun W h => h.at_ 1 rfl), H321.out, rfl, by omega⟩
        have c0 : wr.cell? ⟨gs, k, none⟩ = some (.slice Ax nx cx) := by
          have h0 := Cells.cell (hI.at_ 0 rfl) (i := k) (show k < 2 from hlt)
          rw [List.getElem?_eq_getElem (show k < ([.slice A n c, .slice p1 l1.length k1] : List Value).length from hlt)] at hcell
          exact h0.trans hcell
        clear hcell
        obtain ⟨hr32, hrl⟩ := mvR_32 (f := fr) (t := dd) hx32
        have HR32 := Lib.hid hr32
        have HVR := Lib.hid (mvR_valid (f := fr) (t := dd) hx32)
        have HS32 : Hid (∀ e ∈ selL pat lx, E32 e) := Lib.hid (fun e he => hx32 e ((List.mem_filter.1 he).1))
        have hsl : (selL pat lx).length ≤ 1000 := by have := List.length_filter_le (fun e : E => matchF pat e.p) lx; unfold selL; omega
        have hrl2 : (mvR fr dd lx).1.length ≤ 1000 := by omega
        have H1 := Lib.hid (HMV.out lx Ax nx cx Bx hx32 hnx hn1)
        have H2 := Lib.hid (HMR.out lx Ax nx cx Bx hx32 hnx hn1)
        have H3 := Lib.hid (HSE.out lx Ax nx cx Bx hx32 hnx hn1)
        have H4 := Lib.hid (HSR.out lx Ax nx cx Bx hx32 hnx hn1)
        clear hr32 hrl hx32 hnx HMV HMR HSE HSR
        generalize (mvR fr dd lx).1 = r at *
        generalize (mvR fr dd lx).2 = er at *
        generalize selL pat lx = s at *
        have wk1 : (0 : Int) ≤ (k : Int) := by omega
        have wk2 : ((k : Int)).toNat = k := by omega
        have wk3 : (k : Int) < 2 := by omega
        have h1 := H1.out wr (HEL.out wr hI).1 (HEL.out wr hI).2
        go_upto_region 9 with (go_at_call 9; refine h1.mono ?_; clear h1; intro e w3 h; obtain ⟨A5, c5, rfl, hE5, hb3⟩ := resV h HR32.out; clear h; have hW3 := (hI.call hb3).cons (r := .low (.els w3.heap.size 33 A5 r.length (r.map entC))) ⟨hE5, Nat.le_refl _⟩; clear hI hE5 hb3)
        have h2 := H2.out w3 (hW3.at_ 4 rfl : _ ∧ _).1 (HEL.out w3 hW3.2).1 (HEL.out w3 hW3.2).2
        go_upto_region 10 with (go_at_call 10; refine h2.mono ?_; clear h2; intro e w4 h; obtain ⟨A7, c7, rfl, hE7, hb4⟩ := resV h HR32.out; clear h; have hW4 := (hW3.call hb4).cons (r := .low (.els w4.heap.size 33 A7 r.length (r.map entC))) ⟨hE7, Nat.le_refl _⟩; clear hE7 hb4)
        have hsm := Same_true w4 w4.heap.size A5 A7 r.length c5 c7 r ((hW4.at_ 1 rfl : _ ∧ _).1.mono (hW4.at_ 1 rfl : _ ∧ w3.heap.size ≤ w4.heap.size).2) (hW4.at_ 0 rfl : _ ∧ _).1 HR32.out rfl (by omega) (Nat.le_refl _)
        obtain ⟨B5, hB5⟩ : ∃ s, s = w3.heap.size := ⟨_, rfl⟩
        rw [← hB5] at hW4
        clear hB5 hW3
        have de : (er != er) = false := by simp
        have HSV : Hid (∀ (A8 A9 : Option Addr) c8 c9 W B8 B9, Els W B8 33 A8 s.length (s.map entC) → B8 ≤ W.heap.size → Els W B9 33 A9 s.length (s.map entC) → B9 ≤ W.heap.size → Calls Tryd.prog 11 #[.slice A8 s.length c8, .slice A9 s.length c9] W fun e w' => e = .returned (.bool true) ∧ Below W.heap.size W w') := Lib.hid (fun A8 A9 c8 c9 W B8 B9 h8 hl8 h9 hl9 => Same_true W W.heap.size A8 A9 s.length c8 c9 s (h8.mono hl8) (h9.mono hl9) HS32.out rfl (by omega) (Nat.le_refl _))
        have HVA : Hid (er = 0 → ∀ W B5', Els W B5' 33 A5 r.length (r.map entC) → B5' ≤ W.heap.size → Calls Tryd.prog 14 #[.slice A5 r.length c5] W fun e w' => e = .returned (.bool true) ∧ Below W.heap.size W w') := Lib.hid (fun h0 W B5' h5 hl5 => by
          have hv := Valid_any W B5' A5 r.length c5 r h5 HR32.out rfl (by omega) hl5
          rw [HVR.out h0] at hv
          exact hv)
        clear HVR
        by_cases he : er = 0
        · have dz : (er == 0) = true := by simpa using he
          have hva := HVA.out he
          clear he HVA
          go_wp2_with (first
            | (go_at_call 11; refine hsm.mono ?_; clear hsm; rintro e wb ⟨rfl, hbb⟩; have hWb := hW4.call hbb; have h3 := H3.out wb (HEL.out wb hWb.2.2).1 (HEL.out wb hWb.2.2).2; clear hbb hW4)
            | (go_at_call 12; refine h3.mono ?_; clear h3; intro e wc h; obtain ⟨A8, c8, rfl, hE8, hbc⟩ := rowV h HS32.out; clear h; have hWc := hWb.call hbc; have h4 := H4.out wc (hWc.at_ 5 rfl : _ ∧ _).1 (HEL.out wc hWc.2.2).1 (HEL.out wc hWc.2.2).2; clear hbc hWb)
            | (go_at_call 13; refine h4.mono ?_; clear h4; intro e wd h; obtain ⟨A9, c9, rfl, hE9, hbd⟩ := rowV h HS32.out; clear h; have hWd := hWc.call hbd; have hsn := HSV.out A8 A9 c8 c9 wd wc.heap.size wd.heap.size (hE8.keep (fun p hp => hbd.cell hp)) hbd.size hE9 (Nat.le_refl _); clear hbd hWc hE8 hE9)
            | (go_at_call 11; refine hsn.mono ?_; clear hsn; rintro e we ⟨rfl, hbe⟩; have hWe := hWd.call hbe; clear hbe hWd)
            | (go_at_call 14; refine (hva we B5 (hWe.at_ 1 rfl : _ ∧ _).1 (hWe.at_ 1 rfl : _ ∧ B5 ≤ we.heap.size).2).mono ?_; clear hva; rintro e wf ⟨rfl, hbf⟩; have hWf := hWe.call hbf; clear hbf hWe))
          exact ⟨⟨k + 1, by omega, by go_num, hWf.2.2⟩, by simp [intOf]; omega⟩
        · have dz : (er == 0) = false := by simpa using he
          clear he HVA
          go_wp2_with (first
            | (go_at_call 11; refine hsm.mono ?_; clear hsm; rintro e wb ⟨rfl, hbb⟩; have hWb := hW4.call hbb; have h3 := H3.out wb (HEL.out wb hWb.2.2).1 (HEL.out wb hWb.2.2).2; clear hbb hW4)
            | (go_at_call 12; refine h3.mono ?_; clear h3; intro e wc h; obtain ⟨A8, c8, rfl, hE8, hbc⟩ := rowV h HS32.out; clear h; have hWc := hWb.call hbc; have h4 := H4.out wc (hWc.at_ 5 rfl : _ ∧ _).1 (HEL.out wc hWc.2.2).1 (HEL.out wc hWc.2.2).2; clear hbc hWb)
            | (go_at_call 13; refine h4.mono ?_; clear h4; intro e wd h; obtain ⟨A9, c9, rfl, hE9, hbd⟩ := rowV h HS32.out; clear h; have hWd := hWc.call hbd; have hsn := HSV.out A8 A9 c8 c9 wd wc.heap.size wd.heap.size (hE8.keep (fun p hp => hbd.cell hp)) hbd.size hE9 (Nat.le_refl _); clear hbd hWc hE8 hE9)
            | (go_at_call 11; refine hsn.mono ?_; clear hsn; rintro e we ⟨rfl, hbe⟩; have hWe := hWd.call hbe; clear hbe hWd))
          exact ⟨⟨k + 1, by omega, by go_num, hWe.2.2⟩, by simp [intOf]; omega⟩
      · have d1 : decide ((k : Int) < 2) = false := by simp; omega
        have haw := awake_any wr
        go_wp2_with (go_at_call 15; refine haw.mono ?_; clear haw; rintro e w9 ⟨rfl, hb9⟩; have hI9 := hI.call hb9)
        go_ret
        exact ⟨rfl, (hI9.at_ 3 rfl : _ ∧ _).1⟩
  · have d1 : decide ((n : Int) ≤ 200) = false := by simp; omega
    rw [d1] at hlt
    go_enter Tryd.func3, Tryd.ntmps3
    go_wp2_with (go_at_call 5; refine hlt.mono ?_; clear hlt; rintro e w ⟨rfl, rfl⟩)
    go_ret
    exact ⟨rfl, Below.refl _ _⟩
end Go.Proofs.YtipepcjiogifaaaDoor

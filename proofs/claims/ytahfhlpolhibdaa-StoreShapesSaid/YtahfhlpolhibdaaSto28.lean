/- StoreShapes, walked. -/
import Derived.Test.YtahfhlpolhibdaaSto27
import Derived.Test.YtahfhlpolhibdaaSto24
set_option linter.unusedSimpArgs false
set_option linter.unusedVariables false
set_option maxRecDepth 100000
namespace Go.Proofs.Ytahfhlpolhibdaa
open Go Go.RowKit Go.Adm

set_option maxHeartbeats 3200000 in
theorem SameDigs_true (w : World) (B : Nat) (A1 A2 : Option Addr) (n c1 c2 : Nat) (xs : List (List UInt8)) (h1 : Digs w B A1 n xs) (h2 : Digs w B A2 n xs) (hn2 : n ≤ 1000000) (hB : B ≤ w.heap.size) :
    Calls Try.prog 22 #[.slice A1 n c1, .slice A2 n c2] w fun e w' => e = .returned (.bool true) ∧ Below w.heap.size w w' := by
  have hR : All w [.low (.digs B A1 n xs), .low (.digs B A2 n xs), .kept w w.heap.size] := ⟨⟨h1, hB⟩, ⟨h2, hB⟩, ⟨Below.refl _ _, Nat.le_refl _⟩, trivial⟩
  have HN := Lib.hid h1.len
  clear h1 h2
  go_enter Try.func22, Try.ntmps22
  go_upto_region 1 with (fail)
  have d0 : ((n : Int) != (n : Int)) = false := by simp
  have hI0 := hR
  clear hR
  go_wp2
  clear d0
  go_loopw [5] (fun i wr => ∃ k : Nat, k ≤ n ∧ i = .int .i64 k ∧ All wr [.low (.digs B A1 n xs), .low (.digs B A2 n xs), .kept w w.heap.size]) (fun i _ => n - (intOf i).toNat)
  case atStart => exact ⟨0, by omega, rfl, hI0⟩
  case round =>
    clear hI0
    obtain ⟨k, hk, rfl, hI⟩ := hrel
    by_cases hlt : k < n
    · have hkl : k < xs.length := by rw [HN.out]; exact hlt
      have hg1 := (hI.at_ 0 rfl : Digs wr B A1 n xs ∧ _).1
      have hg2 := (hI.at_ 1 rfl : Digs wr B A2 n xs ∧ _).1
      obtain ⟨a1, rfl, -, -⟩ := Digs.elem hg1 hkl
      obtain ⟨a2, rfl, -, -⟩ := Digs.elem hg2 hkl
      have HX1 : Hid (∀ W, All W [.low (.digs B (some a1) n xs), .low (.digs B (some a2) n xs), .kept w w.heap.size] → ∀ q s, (xs[k].map bv)[q]? = some s → W.cell? ((a1.add (k * 32)).add q) = some s) := Lib.hid (fun W hW => by
        obtain ⟨ad', e, _, hc⟩ := Digs.elem (hW.at_ 0 rfl : Digs W B (some a1) n xs ∧ B ≤ W.heap.size).1 hkl
        obtain rfl := Option.some.inj e
        exact hc)
      have HX2 : Hid (∀ W, All W [.low (.digs B (some a1) n xs), .low (.digs B (some a2) n xs), .kept w w.heap.size] → ∀ q s, (xs[k].map bv)[q]? = some s → W.cell? ((a2.add (k * 32)).add q) = some s) := Lib.hid (fun W hW => by
        obtain ⟨ad', e, _, hc⟩ := Digs.elem (hW.at_ 1 rfl : Digs W B (some a2) n xs ∧ B ≤ W.heap.size).1 hkl
        obtain rfl := Option.some.inj e
        exact hc)
      have HD := Lib.hid (hg1.each _ (List.getElem_mem hkl))
      clear hg1 hg2
      generalize xs[k] = d at *
      have d1 : decide ((k : Int) < (n : Int)) = true := by simp; omega
      have wk0 : (0 : Int) ≤ (k : Int) := by omega
      have wk1 : (k : Int) < (n : Int) := by omega
      have wk2 : ((k : Int)).toNat = k := by omega
      go_upto_region 6 with (fail)
      refine wp_region_hops 8 [17, 18, 19, 20, 21, 22, 23, 24] [.low (.digs B (some a1) n xs), .low (.digs B (some a2) n xs), .kept w w.heap.size]
        [.eq (.slice (some a1) n c1), .eq (.int .i64 k), .eq (.pointer (some (a1.add (k * 32)))), .eq (.agg (d.map bv).toArray), .eq (.slice (some a2) n c2), .eq (.int .i64 k), .eq (.pointer (some (a2.add (k * 32)))), .eq (.agg (d.map bv).toArray)]
        (by kernel_rfl) (by kernel_rfl) hI rfl ?hops ?fin
      case hops =>
        refine ⟨?_, ?_, ?_, ?_, ?_, ?_, ?_, ?_, trivial⟩
        · intro a W hW hb hd K hK
          have b0 := hb 0 rfl
          go_simp
          exact hK _ _ (World.grownBy.refl _ _) rfl
        · intro a W hW hb hd K hK
          have b5 := hb 5 rfl
          go_simp
          exact hK _ _ (World.grownBy.refl _ _) rfl
        · intro a W hW hb hd K hK
          have b17 : a.tmps[17]?.getD undef = _ := hd ⟨0, .data⟩ (by simp) rfl
          have b18 : a.tmps[18]?.getD undef = _ := hd ⟨1, .data⟩ (by simp) rfl
          go_simp
          exact hK _ _ (World.grownBy.refl _ _) rfl
        · intro a W hW hb hd K hK
          have b19 : a.tmps[19]?.getD undef = _ := hd ⟨2, .data⟩ (by simp) rfl
          refine wp_load_any 31 (.tmp 19) rfl (a1.add (k * 32)) (show a.eval (.tmp 19) = _ from by simp only [Act.eval, Array.getD_eq_getD_getElem?]; exact b19) (d.map bv) _ (HX1.out W hW) Try.underlying31 rfl (by rw [List.length_map, HD.out]; kernel_rfl) ?_
          exact hK _ _ (World.grownBy.refl _ _) rfl
        · intro a W hW hb hd K hK
          have b1 := hb 1 rfl
          go_simp
          exact hK _ _ (World.grownBy.refl _ _) rfl
        · intro a W hW hb hd K hK
          have b5 := hb 5 rfl
          go_simp
          exact hK _ _ (World.grownBy.refl _ _) rfl
        · intro a W hW hb hd K hK
          have b21 : a.tmps[21]?.getD undef = _ := hd ⟨4, .data⟩ (by simp) rfl
          have b22 : a.tmps[22]?.getD undef = _ := hd ⟨5, .data⟩ (by simp) rfl
          go_simp
          exact hK _ _ (World.grownBy.refl _ _) rfl
        · intro a W hW hb hd K hK
          have b23 : a.tmps[23]?.getD undef = _ := hd ⟨6, .data⟩ (by simp) rfl
          refine wp_load_any 31 (.tmp 23) rfl (a2.add (k * 32)) (show a.eval (.tmp 23) = _ from by simp only [Act.eval, Array.getD_eq_getD_getElem?]; exact b23) (d.map bv) _ (HX2.out W hW) Try.underlying31 rfl (by rw [List.length_map, HD.out]; kernel_rfl) ?_
          exact hK _ _ (World.grownBy.refl _ _) rfl
      case fin =>
        intro vs V hV hv
        have e3 : vs 3 = _ := hv 3 (by decide)
        have e7 : vs 7 = _ := hv 7 (by decide)
        clear hv hI
        simp only [putAll, List.drop_succ_cons, List.drop_zero, e3, e7, Act.put, List.setIfInBounds_toArray, List.set_cons_succ, List.set_cons_zero]
        clear e3 e7
        have q1 := fun W => eqIn_dg W d d HD.out HD.out
        rw [decide_eq_true (rfl : d = d)] at q1
        go_wp2_with fail
        exact ⟨⟨k + 1, by omega, by go_num, hV⟩, by simp [intOf]; omega⟩
    · obtain rfl : n = k := by omega
      have d1 : decide ((n : Int) < (n : Int)) = false := by simp
      clear hlt
      go_wp2_with fail
      go_ret
      exact ⟨rfl, (hI.at_ 2 rfl : _ ∧ _).1⟩

set_option maxHeartbeats 6400000 in
theorem walkShapes (w : World) (A Ar : Option Addr) (n c nr cr : Nat) (l : List Bl) (rows : List (List Int)) (hl : Blobs w w.heap.size A n l) (hc : c ≤ 140737488351232) (hnc : n ≤ c) (hbig : ∀ x ∈ l, x.n ≤ 140737488351232) (hr : IRows w w.heap.size Ar nr rows) (hnr : nr ≤ 140737488351232) (hri : ∀ r ∈ rows, IntB r) :
    Calls Try.prog 6 #[.slice A n c, .slice Ar nr cr] w fun e w' => e = .returned (.bool true) ∧ Below w.heap.size w w' := by
  have hR : All w [.low (.blobs w.heap.size A n l), .kept w w.heap.size] := ⟨⟨hl, Nat.le_refl _⟩, ⟨Below.refl _ _, Nat.le_refl _⟩, trivial⟩
  have HBIG : Hid (∀ x ∈ l, x.n ≤ 140737488355000) := Lib.hid (fun x hx => Nat.le_trans (hbig x hx) (by decide))
  have HRI := Lib.hid hri
  have HR := Lib.hid hr
  have hli := light_any w w.heap.size A n c l hl (Nat.le_refl _) (by omega) HBIG.out
  have HL32 : Hid (∀ x ∈ l, x.d.length = 32) := Lib.hid (fun x hx => (hl.each x hx).d32)
  have HLN := Lib.hid hl.len
  clear hbig hl hri hr
  go_enter Try.func6, Try.ntmps6
  go_upto_region 1 with (fail)
  go_wp2_with fail
  refine hli.mono ?_
  clear hli
  rintro e w1 ⟨he, hb1⟩
  have hR1 := hR.call hb1
  have hb1' := Lib.hid hb1
  clear hb1 hR
  rcases he with rfl | ⟨rfl, h300⟩
  · go_wp2_with fail
    go_ret
    exact ⟨rfl, (hR1.at_ 1 rfl : _ ∧ _).1⟩
  have hir : IRows w1 w.heap.size Ar nr rows := by
    obtain ⟨vs, h1, h2⟩ := HR.out.rows
    exact ⟨vs, h1.below hb1'.out (Nat.le_refl _), h2.imp fun v L ⟨A, c, e, h⟩ => ⟨A, c, e, h.below hb1'.out (Nat.le_refl _)⟩⟩
  have hfi := filled_any w1 w.heap.size Ar nr cr rows hir hb1'.out.size (by omega) (fun r hr => (HRI.out r hr).2) (fun r hr => by have := (HRI.out r hr).1; omega)
  clear hir
  go_wp2_with fail
  refine hfi.mono ?_
  clear hfi
  rintro e w2 ⟨Ay, ny, cy, ly, Aa, na, ca, ds, cs, rfl, hbly, -, hncy, hcmy, -, -, hiv, hcl, hc26, hds, hb2⟩
  have FY := Lib.hid (Fil.of hbly hiv hcl hc26 hds)
  have HSY := Lib.hid (inv_sha hiv)
  have hny : ny ≤ 12 := by have := FY.out.len; rw [hbly.len] at this; exact this
  have HBY : Hid (∀ x ∈ ly, x.n ≤ 140737488355000) := Lib.hid (fun x hx => Nat.le_trans (blob_n hbly FY.out.each x hx) (by decide))
  have HY32 : Hid (∀ x ∈ ly, x.d.length = 32) := Lib.hid (fun x hx => (hbly.each x hx).d32)
  have hR2 := hR1.call hb2
  have h3 : All w2 [.low (.blobs w.heap.size A n l), .low (.blobs w2.heap.size Ay ny ly), .kept w w.heap.size] := ⟨hR2.at_ 0 rfl, ⟨hbly, Nat.le_refl _⟩, hR2.at_ 1 rfl, trivial⟩
  generalize w2.heap.size = By at h3
  clear hR1 hR2 hbly hb2 hiv hcl hc26 hds hb1'
  have HB0 : Hid (∀ W, All W [.low (.blobs w.heap.size A n l), .low (.blobs By Ay ny ly), .kept w w.heap.size] → Blobs W w.heap.size A n l ∧ w.heap.size ≤ W.heap.size) := Lib.hid (fun W hW => (hW.at_ 0 rfl : Blobs W w.heap.size A n l ∧ _))
  have HB1 : Hid (∀ W, All W [.low (.blobs w.heap.size A n l), .low (.blobs By Ay ny ly), .kept w w.heap.size] → Blobs W By Ay ny ly ∧ By ≤ W.heap.size) := Lib.hid (fun W hW => (hW.at_ 1 rfl : Blobs W By Ay ny ly ∧ _))
  have hca := awake_any w2
  go_wp2_with fail
  refine hca.mono ?_
  clear hca
  rintro e w4 ⟨rfl, hb4⟩
  have h4 := h3.call hb4
  clear h3 hb4
  have hca := Valid_any w4 w.heap.size A n c l (HB0.out w4 h4).1 (by omega) (HB0.out w4 h4).2 HBIG.out
  go_wp2_with fail
  refine hca.mono ?_
  clear hca
  rintro e w5 ⟨rfl, hb5⟩
  have h5 := h4.call hb5
  clear h4 hb5
  have hca := refValid_any w5 w.heap.size A n c l (HB0.out w5 h5).1 (by omega) (HB0.out w5 h5).2 HBIG.out
  go_wp2_with fail
  refine hca.mono ?_
  clear hca
  rintro e w6 ⟨rfl, hb6⟩
  have h6 := h5.call hb6
  clear h5 hb6
  generalize validB l = vb at *
  have dvb : (vb == vb) = true := by simp
  have hca := Audit_any w6 w.heap.size A n c l (HB0.out w6 h6).1 (by omega) (HB0.out w6 h6).2 HBIG.out
  go_wp2_with fail
  refine hca.mono ?_
  clear hca
  rintro e w7 ⟨A7, c7, rfl, hd7, -, -, hb7⟩
  have h7 : All w7 (.low (.digs w7.heap.size A7 (audS l).length (audS l)) :: _) := ⟨⟨hd7, Nat.le_refl _⟩, h6.call hb7⟩
  generalize w7.heap.size = B7 at h7
  clear h6 hb7 hd7
  have hca := refAudit_any w7 w.heap.size A n c l (HB0.out w7 h7.2).1 (by omega) (HB0.out w7 h7.2).2 HBIG.out
  go_wp2_with fail
  refine hca.mono ?_
  clear hca
  rintro e w8 ⟨A8, c8, rfl, hd8, -, -, hb8⟩
  have h8 : All w8 (.low (.digs w8.heap.size A8 (audS l).length (audS l)) :: _) := ⟨⟨hd8, Nat.le_refl _⟩, h7.call hb8⟩
  generalize w8.heap.size = B8 at h8
  clear h7 hb8 hd8
  have hau : (audS l).length ≤ 1000000 := by
    have h1 : (audS l).length ≤ l.length := by unfold audS; rw [List.length_map]; exact List.length_filter_le _ _
    rw [HLN.out] at h1; omega
  have hca := SameDigs_true w8 w8.heap.size A7 A8 _ c7 c8 (audS l) ((h8.at_ 1 rfl : Digs w8 B7 A7 _ _ ∧ _).1.mono (h8.at_ 1 rfl : _ ∧ B7 ≤ w8.heap.size).2) ((h8.at_ 0 rfl : Digs w8 B8 A8 _ _ ∧ _).1.mono (h8.at_ 0 rfl : _ ∧ B8 ≤ w8.heap.size).2) hau (Nat.le_refl _)
  go_wp2_with fail
  refine hca.mono ?_
  clear hca
  rintro e w9 ⟨rfl, hb9⟩
  have h9 := (h8.call hb9).2.2
  clear h8 hb9 hau
  obtain ⟨r, hr⟩ : ∃ r, treeS (dsB l) = r := ⟨_, rfl⟩
  have HR32 : Hid (r.length = 32) := Lib.hid (by
    rw [← hr]
    have hdl : (dsB l).length = n := by unfold dsB; rw [List.length_map]; exact HLN.out
    exact treeS_len _ (Nat.le_refl _) (by omega) (fun y hy => by
      obtain ⟨x, hx, rfl⟩ := List.mem_map.1 hy
      exact HL32.out x hx))
  have HRR := Lib.hid hr
  clear hr
  have hca := Root_any w9 w.heap.size A n c l (HB0.out w9 h9).1 (by omega) (HB0.out w9 h9).2 HBIG.out
  rw [HRR.out] at hca
  go_wp2_with fail
  refine hca.mono ?_
  clear hca
  rintro e w10 ⟨rfl, hb10⟩
  have h10 := h9.call hb10
  clear h9 hb10
  have hca := refRoot_any w10 w.heap.size A n c l (HB0.out w10 h10).1 (by omega) (HB0.out w10 h10).2 HBIG.out
  rw [HRR.out] at hca
  go_wp2_with fail
  refine hca.mono ?_
  clear hca
  rintro e w11 ⟨rfl, hb11⟩
  have h11 := h10.call hb11
  clear h10 hb11
  have q1 := fun W => eq_dg W r r HR32.out HR32.out
  rw [decide_eq_true (rfl : r = r)] at q1
  have q2 := fun W => eqIn_dg W r r HR32.out HR32.out
  rw [decide_eq_true (rfl : r = r)] at q2
  have hca := Valid_any w11 By Ay ny cy ly (HB1.out w11 h11).1 (by omega) (HB1.out w11 h11).2 HBY.out
  rw [FY.out.val] at hca
  go_wp2_with fail
  refine hca.mono ?_
  clear hca q1 q2
  rintro e w12 ⟨rfl, hb12⟩
  have h12 := h11.call hb12
  clear h11 hb12
  have hca := Audit_clean w12 By Ay ny cy ly (HB1.out w12 h12).1 HSY.out (by omega) (HB1.out w12 h12).2 HBY.out
  go_wp2_with fail
  refine hca.mono ?_
  clear hca
  rintro e w13 ⟨rfl, hb13⟩
  have h13 := h12.call hb13
  clear h12 hb13
  obtain ⟨s, hs⟩ : ∃ s, treeS (dsB ly) = s := ⟨_, rfl⟩
  have HS32 : Hid (s.length = 32) := Lib.hid (by
    rw [← hs]
    have hdl : (dsB ly).length ≤ 12 := by unfold dsB; rw [List.length_map]; exact FY.out.len
    exact treeS_len _ (Nat.le_refl _) (by omega) (fun y hy => by
      obtain ⟨x, hx, rfl⟩ := List.mem_map.1 hy
      exact HY32.out x hx))
  have HSS := Lib.hid hs
  clear hs
  have hca := Root_any w13 By Ay ny cy ly (HB1.out w13 h13).1 (by omega) (HB1.out w13 h13).2 HBY.out
  rw [HSS.out] at hca
  go_wp2_with fail
  refine hca.mono ?_
  clear hca
  rintro e w14 ⟨rfl, hb14⟩
  have h14 := h13.call hb14
  clear h13 hb14
  have hca := refRoot_any w14 By Ay ny cy ly (HB1.out w14 h14).1 (by omega) (HB1.out w14 h14).2 HBY.out
  rw [HSS.out] at hca
  go_wp2_with fail
  refine hca.mono ?_
  clear hca
  rintro e w15 ⟨rfl, hb15⟩
  have h15 := h14.call hb15
  clear h14 hb15
  have q1 := fun W => eq_dg W s s HS32.out HS32.out
  rw [decide_eq_true (rfl : s = s)] at q1
  have q2 := fun W => eqIn_dg W s s HS32.out HS32.out
  rw [decide_eq_true (rfl : s = s)] at q2
  go_wp2_with fail
  go_ret
  exact ⟨rfl, (h15.at_ 2 rfl : _ ∧ _).1⟩
end Go.Proofs.Ytahfhlpolhibdaa

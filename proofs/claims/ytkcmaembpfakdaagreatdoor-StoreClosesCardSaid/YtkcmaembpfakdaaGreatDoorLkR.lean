/- The digests that are words of a document: the reference's Links. -/
import Derived.Test.YtkcmaembpfakdaaGreatDoorLkP
import Derived.Test.YtkcmaembpfakdaaGreatDoorDec5
import Derived.Test.YtkcmaembpfakdaaGreatDoorParR
set_option linter.unusedSimpArgs false
set_option linter.unusedVariables false
set_option maxRecDepth 100000
namespace Go.Adm
open Go Go.RowKit
theorem wl_neq_met {P : Program} {ops : Array Oper} {rest : List Oper} {o : Oper} {a : Act} {w : World} {Q : Exit → Act → World → Prop} {t t2 : TypeId} (hw : Region.wanted o (yielded ops a.tmps) = true) (x y : Operand) (ho : o.op = .binOp .neq t x y t2) (v : Value)
    (h : (binOp .neq t (a.eval x) (a.eval y)).run P w = .ok v w) (hg : (eqGuard .neq t x y (a.eval x) (a.eval y)).run P w = .ok () w) (hk : wpList P ops Q rest (a.put o.dst v) w) : wpList P ops Q (o :: rest) a w :=
  wpList_step fun _ hK => by
    rw [if_pos hw]
    unfold Oper.wp execOp
    simp only [ho, Sem.run_bind, hg, h, Result.andThen_ok]
    exact hK _ _ hk
theorem linksW_had {ws : List ByteArray} {d : List UInt8} (h : d ∈ linksW ws) : d.length = 32 := (linksW_each ws d h).1
end Go.Adm
namespace Go.Proofs.YtkcmaembpfakdaaGreatDoor
open Go Go.RowKit Go.Adm
set_option maxHeartbeats 12800000 in
theorem refLinks_any (w : World) (m : Int) (hm : w.cell? ⟨0, 0, none⟩ = some (.int .i64 m)) (B : Nat) (A : Option Addr) (n c : Nat) (b : List UInt8) (hb : Rd w B 1 A n (b.map bv)) (hnc : n ≤ c) (hcm : c ≤ maxLen) (hB : B ≤ w.heap.size) :
    Calls Tryz.prog 15 #[.slice A n c] w (OwnD 32 (linksB b) w) := by
  have hgm : 0 < w.heap.size := World.block_lt_of_cell? w _ hm
  have hR : All w [.kept w w.heap.size] := ⟨⟨Below.refl _ _, Nat.le_refl _⟩, trivial⟩
  have hdc := refDecode_any w m hm hgm B A n c b hb hnc hcm hB
  obtain ⟨hw1, hw2⟩ := decR_words b
  have HLB : Hid (linksB b = linksW (decR b).1.flatten) := Lib.hid rfl
  have H120 := Lib.hid hw2
  unfold DecPost at hdc
  clear hb hnc hcm hB hw2 hm hgm
  generalize linksB b = r at *
  generalize (decR b).1 = ls at *
  generalize (decR b).2 = er at *
  have hzr := zero_dg
  go_enter Tryz.func15, Tryz.ntmps15
  go_upto_region 2 with (go_at_call 35; refine hdc.mono ?_; clear hdc; rintro e w1 ⟨Al, nl, cl, rfl, hL, hlc, hcm1, hb1⟩; have hI1 : All w1 [.low (Low.linesL w1.heap.size Al nl ls), .kept w w.heap.size] := ⟨⟨hL, Nat.le_refl _⟩, ⟨hb1, hb1.size⟩, trivial⟩)
  have HLL := Lib.hid hL.len
  have hnl : nl ≤ 1000 := by rw [← HLL.out]; exact hw1
  obtain ⟨gm, hgm⟩ : ∃ g, g = w1.heap.size := ⟨_, rfl⟩
  have hgw : w.heap.size ≤ gm := by rw [hgm]; exact hb1.size
  rw [← hgm] at hI1
  have hI : All w1 [.own gm 32 32 none 0 0 (dvs []).flatten, .low (Low.linesL gm Al nl ls), .kept w w.heap.size] := ⟨Go.Adm.Own.nil _ _ _ _, hI1⟩
  clear hL hb1 hw1 hI1 hgm
  go_wp2_with fail
  go_loopw [5, 6] (fun v i wr => ∃ (k : Nat) (A' : Option Addr) (c' : Nat) (o : List (List UInt8)), k ≤ nl ∧ i = .int .i64 k ∧ v = .slice A' o.length c' ∧ o.length ≤ 120 * k ∧ Hid (o = linksW (ls.take k).flatten) ∧ All wr [.own gm 32 32 A' o.length c' (dvs o).flatten, .low (Low.linesL gm Al nl ls), .kept w w.heap.size]) (fun _ i _ => nl - (intOf i).toNat)
  case atStart => exact ⟨0, none, 0, [], Nat.zero_le _, rfl, rfl, Nat.zero_le _, Lib.hid rfl, hI⟩
  case round =>
    clear hI
    obtain ⟨k, A', c', o, hk, rfl, rfl, hok, HO, hI⟩ := hrel
    by_cases hlt : k < nl
    · have d1 : decide ((k : Int) < (nl : Int)) = true := by simp; omega
      have hkl : k < ls.length := by rw [HLL.out]; exact hlt
      obtain ⟨ad, A2, c2, rfl, hadB, hrc, hrn, hrm, hst⟩ := (hI.at_ 1 rfl : Lines wr gm Al nl ls ∧ _).1.at_ hkl
      have hI0 : All wr [.own gm 32 32 A' o.length c' (dvs o).flatten, .low ⟨gm, fun W => W.cell? (ad.add k) = some (.slice A2 ls[k].length c2) ∧ Strs W gm A2 ls[k].length ls[k], fun W W' hk h => ⟨(hk _ (by rw [add_block]; exact hadB)).trans h.1, h.2.keep hk⟩⟩, .low (Low.linesL gm (some ad) nl ls), .kept w w.heap.size] := ⟨hI.1, ⟨⟨hrc, hst⟩, (hI.at_ 1 rfl : _ ∧ gm ≤ wr.heap.size).2⟩, hI.2⟩
      have h120 := H120.out _ (List.getElem_mem hkl)
      have HFL := Lib.hid (flat_succ hkl)
      have HO1 : Hid (o = linksW ((ls.take k).flatten ++ ls[k].take 0)) := Lib.hid (by rw [HO.out]; simp)
      clear hst hI HO hrc
      generalize ls[k] = row at *
      have wk1 : (0 : Int) ≤ (k : Int) := by omega
      have wk2 : (k : Int) < (nl : Int) := by omega
      have wk3 : ((k : Int)).toNat = k := by omega
      go_wp2_with fail
      obtain ⟨wo, rfl⟩ : ∃ wo : World, wo = wr := ⟨wr, rfl⟩
      go_loopw [5, 7] (fun v i wr => ∃ (j : Nat) (A' : Option Addr) (c' : Nat) (o : List (List UInt8)), j ≤ row.length ∧ i = .int .i64 j ∧ v = .slice A' o.length c' ∧ o.length ≤ 120 * k + j ∧ Hid (o = linksW ((ls.take k).flatten ++ row.take j)) ∧ All wr [.own gm 32 32 A' o.length c' (dvs o).flatten, .low ⟨gm, fun W => W.cell? (ad.add k) = some (.slice A2 row.length c2) ∧ Strs W gm A2 row.length row, fun W W' hk h => ⟨(hk _ (by rw [add_block]; exact hadB)).trans h.1, h.2.keep hk⟩⟩, .low (Low.linesL gm (some ad) nl ls), .kept w w.heap.size]) (fun _ i _ => row.length - (intOf i).toNat)
      case atStart => exact ⟨0, A', c', o, Nat.zero_le _, rfl, rfl, by omega, HO1, hI0⟩
      case round =>
        clear hI0 HO1 hok
        obtain ⟨j, A', c', o, hj, rfl, rfl, hok, HO, hI⟩ := hrel
        have hrc : wr.cell? (ad.add k) = some (.slice A2 row.length c2) := (hI.at_ 1 rfl : (_ ∧ _) ∧ _).1.1
        by_cases hjl : j < row.length
        · have d2 : decide ((j : Int) < (row.length : Int)) = true := by simp; omega
          obtain ⟨a2, rfl, ha2, hc2, hsz⟩ := (hI.at_ 1 rfl : (_ ∧ Strs wr gm A2 row.length row) ∧ _).1.2.at_ hjl
          have HTK : Hid (row.take (j + 1) = row.take j ++ [row[j]]) := Lib.hid (List.take_succ_eq_append_getElem hjl)
          have hpa := fun W => refParse_any row[j] W
          generalize row[j] = word at *
          have wj1 : (0 : Int) ≤ (j : Int) := by omega
          have wj2 : (j : Int) < (row.length : Int) := by omega
          have wj3 : ((j : Int)).toNat = j := by omega
          have HPL : Hid (((AdP.parsed word.data.toList).map bv).length = 32) := Lib.hid (by rw [List.length_map]; exact AdP.parsed_len _)
          have hkw : w.heap.size ≤ wr.heap.size := hI.size_kept 3 rfl
          cases hp : AdP.parseD word.data.toList with
          | none =>
            have HO2 : Hid (o = linksW ((ls.take k).flatten ++ row.take (j + 1))) := Lib.hid (by rw [HTK.out, ← List.append_assoc, addK_step HO.out, addK_none hp])
            rw [hp] at hpa
            clear hp HO
            generalize AdP.parsed word.data.toList = pd at *
            go_wp2_with (first
              | (go_at_call 36; refine (hpa _).mono ?_; clear hpa; rintro e w4 ⟨rfl, hb4⟩; have hI4 := hI.call hb4; clear hI hrc hc2)
              | (refine wl_store_at (hI4.new (l := z32.map bv) _ 32 rfl rfl) 0 rfl 32 (.tmp 8) (.tmp 39) rfl w4.heap.size _ _ (pd.map bv) rfl rfl rfl (by rw [HPL.out]; rfl) (by rw [HPL.out]; kernel_rfl) (bv_one _) ⟨fun g e => .inr (by injection e with e; subst e; exact Own.ne (hI4.at_ 0 rfl)), fun g e => (by have := (hI4.at_ 1 rfl : _ ∧ gm ≤ w4.heap.size).2; injection e with e; subst e; exact this), fun g e => (by have := (hI4.at_ 2 rfl : _ ∧ gm ≤ w4.heap.size).2; injection e with e; subst e; exact this), fun g e => (by have := hI4.size_kept 3 rfl; injection e with e; subst e; exact this), trivial⟩ ?_; intro W5 hI5 hs5))
            exact ⟨⟨j + 1, A', c', o, by omega, by go_num, rfl, by omega, HO2, hI5.2⟩, by simp [intOf]; omega⟩
          | some d =>
            have hd32 := AdP.parseD_32 hp
            have HPD : AdP.parsed word.data.toList = d := by unfold AdP.parsed; rw [hp]; rfl
            have HD := Lib.hid hd32
            rw [HPD] at hpa HPL
            rw [hp] at hpa
            have HP := Lib.hid hp
            clear HPD hd32 hp
            have HNE : Hid (∀ W, (binOp .neq 32 (.agg (d.map bv).toArray) (.agg (z32.map bv).toArray)).run Tryz.prog W = .ok (.bool (!decide (d = z32))) W) := Lib.hid (fun W => ne_dg W d z32 HD.out rfl)
            by_cases hz : d = z32
            · have HO2 : Hid (o = linksW ((ls.take k).flatten ++ row.take (j + 1))) := Lib.hid (by rw [HTK.out, ← List.append_assoc, addK_step HO.out, addK_had HP.out (.inl hz)])
              have HZ : Hid ((!decide (d = z32)) = false) := Lib.hid (by simp [hz])
              clear hz HO HP
              go_wp2_with (first
                | (go_at_call 36; refine (hpa _).mono ?_; clear hpa; rintro e w4 ⟨rfl, hb4⟩; have hI4 := hI.call hb4; clear hI hrc hc2)
                | (refine wl_store_at (hI4.new (l := z32.map bv) _ 32 rfl rfl) 0 rfl 32 (.tmp 8) (.tmp 39) rfl w4.heap.size _ _ (d.map bv) rfl rfl rfl (by rw [HPL.out]; rfl) (by rw [HPL.out]; kernel_rfl) (bv_one _) ⟨fun g e => .inr (by injection e with e; subst e; exact Own.ne (hI4.at_ 0 rfl)), fun g e => (by have := (hI4.at_ 1 rfl : _ ∧ gm ≤ w4.heap.size).2; injection e with e; subst e; exact this), fun g e => (by have := (hI4.at_ 2 rfl : _ ∧ gm ≤ w4.heap.size).2; injection e with e; subst e; exact this), fun g e => (by have := hI4.size_kept 3 rfl; injection e with e; subst e; exact this), trivial⟩ ?_; intro W5 hI5 hs5; simp only [List.set_cons_zero] at hI5)
                | (refine wl_load_met rfl 32 (.tmp 8) rfl ⟨w4.heap.size, 0, none⟩ rfl (d.map bv) _ (cell_allD (hI5.at_ 0 rfl)) Tryz.underlying32 rfl (by rw [HPL.out]; kernel_rfl) ?_)
                | (refine wl_neq_met rfl (.tmp 43) (.tmp 44) rfl (.bool false) ((HNE.out _).trans (by rw [HZ.out])) (by go_simp) ?_))
              exact ⟨⟨j + 1, A', c', o, by omega, by go_num, rfl, by omega, HO2, hI5.2⟩, by simp [intOf]; omega⟩
            · have HZ : Hid ((!decide (d = z32)) = true) := Lib.hid (by simp [hz])
              have HO32 : Hid (∀ x ∈ o, x.length = 32) := Lib.hid (fun x hx => linksW_had (ws := (ls.take k).flatten ++ row.take j) (by rw [← HO.out]; exact hx))
              have HHAS : Hid (∀ W, All W [.own gm 32 32 A' o.length c' (dvs o).flatten] → Calls Tryz.prog 13 #[.slice A' o.length c', .agg (d.map bv).toArray] W fun e w' => e = .returned (.bool (decide (d ∈ o))) ∧ Below W.heap.size W w') := Lib.hid (fun W h => Has_any W W.heap.size A' o.length c' o d (digs_own (h.at_ 0 rfl) HO32.out) HD.out (by omega) (Nat.le_refl _))
              by_cases hds : d ∈ o
              · have HO2 : Hid (o = linksW ((ls.take k).flatten ++ row.take (j + 1))) := Lib.hid (by rw [HTK.out, ← List.append_assoc, addK_step HO.out, addK_had HP.out (.inr hds)])
                have dd : decide (d ∈ o) = true := by simpa using hds
                rw [dd] at HHAS
                clear hz HO HP dd hds
                go_wp2_with (first
                  | (go_at_call 36; refine (hpa _).mono ?_; clear hpa; rintro e w4 ⟨rfl, hb4⟩; have hI4 := hI.call hb4; clear hI hrc hc2)
                  | (refine wl_store_at (hI4.new (l := z32.map bv) _ 32 rfl rfl) 0 rfl 32 (.tmp 8) (.tmp 39) rfl w4.heap.size _ _ (d.map bv) rfl rfl rfl (by rw [HPL.out]; rfl) (by rw [HPL.out]; kernel_rfl) (bv_one _) ⟨fun g e => .inr (by injection e with e; subst e; exact Own.ne (hI4.at_ 0 rfl)), fun g e => (by have := (hI4.at_ 1 rfl : _ ∧ gm ≤ w4.heap.size).2; injection e with e; subst e; exact this), fun g e => (by have := (hI4.at_ 2 rfl : _ ∧ gm ≤ w4.heap.size).2; injection e with e; subst e; exact this), fun g e => (by have := hI4.size_kept 3 rfl; injection e with e; subst e; exact this), trivial⟩ ?_; intro W5 hI5 hs5; simp only [List.set_cons_zero] at hI5)
                  | (refine wl_load_met rfl 32 (.tmp 8) rfl ⟨w4.heap.size, 0, none⟩ rfl (d.map bv) _ (cell_allD (hI5.at_ 0 rfl)) Tryz.underlying32 rfl (by rw [HPL.out]; kernel_rfl) ?_)
                  | (refine wl_neq_met rfl (.tmp 43) (.tmp 44) rfl (.bool true) ((HNE.out _).trans (by rw [HZ.out])) (by go_simp) ?_)
                  | (go_at_call 13; refine (HHAS.out _ ⟨hI5.at_ 1 rfl, trivial⟩).mono ?_; rintro e w6 ⟨rfl, hb6⟩; have hI6 := hI5.call hb6))
                exact ⟨⟨j + 1, A', c', o, by omega, by go_num, rfl, by omega, HO2, hI6.2⟩, by simp [intOf]; omega⟩
              · have HO2 : Hid (o ++ [d] = linksW ((ls.take k).flatten ++ row.take (j + 1))) := Lib.hid (by rw [HTK.out, ← List.append_assoc, addK_step HO.out, addK_new HP.out (fun h => h.elim hz hds)])
                have dd : decide (d ∈ o) = false := by simpa using hds
                rw [dd] at HHAS
                clear hz HO HP dd hds
                go_upto_region 11 with (first
                  | (go_at_call 36; refine (hpa _).mono ?_; clear hpa; rintro e w4 ⟨rfl, hb4⟩; have hI4 := hI.call hb4; clear hI hrc hc2)
                  | (refine wl_store_at (hI4.new (l := z32.map bv) _ 32 rfl rfl) 0 rfl 32 (.tmp 8) (.tmp 39) rfl w4.heap.size _ _ (d.map bv) rfl rfl rfl (by rw [HPL.out]; rfl) (by rw [HPL.out]; kernel_rfl) (bv_one _) ⟨fun g e => .inr (by injection e with e; subst e; exact Own.ne (hI4.at_ 0 rfl)), fun g e => (by have := (hI4.at_ 1 rfl : _ ∧ gm ≤ w4.heap.size).2; injection e with e; subst e; exact this), fun g e => (by have := (hI4.at_ 2 rfl : _ ∧ gm ≤ w4.heap.size).2; injection e with e; subst e; exact this), fun g e => (by have := hI4.size_kept 3 rfl; injection e with e; subst e; exact this), trivial⟩ ?_; intro W5 hI5 hs5; simp only [List.set_cons_zero] at hI5)
                  | (refine wl_load_met rfl 32 (.tmp 8) rfl ⟨w4.heap.size, 0, none⟩ rfl (d.map bv) _ (cell_allD (hI5.at_ 0 rfl)) Tryz.underlying32 rfl (by rw [HPL.out]; kernel_rfl) ?_)
                  | (refine wl_neq_met rfl (.tmp 43) (.tmp 44) rfl (.bool true) ((HNE.out _).trans (by rw [HZ.out])) (by go_simp) ?_)
                  | (go_at_call 13; refine (HHAS.out _ ⟨hI5.at_ 1 rfl, trivial⟩).mono ?_; rintro e w6 ⟨rfl, hb6⟩; have hI6 := hI5.call hb6))
                obtain ⟨g4, hg4⟩ : ∃ g, g = w4.heap.size := ⟨_, rfl⟩
                simp only [← hg4] at hI6 ⊢
                have hk6 : gm ≤ w6.heap.size := (hI6.at_ 2 rfl : _ ∧ gm ≤ w6.heap.size).2
                have hrd7 : Rd (w6.alloc (.cells (d.map bv).toArray 32)) (w6.heap.size + 1) 32 (some ⟨w6.heap.size, 0, none⟩) 1 (d.map bv) := Rd.lit (size := 32) w6 (d.map bv).toArray 32 1 (by rw [List.size_toArray]; exact HPL.out)
                have hI7 := All.alloc hI6.2 (.cells (d.map bv).toArray 32)
                clear hI4 hI5 hs5 hb6 hg4
                go_wp2_with (first
                  | (refine wl_load_any rfl 32 (.tmp 8) rfl ⟨g4, 0, none⟩ rfl (d.map bv) _ (cell_allD (hI6.at_ 0 rfl)) Tryz.underlying32 rfl (by rw [HPL.out]; kernel_rfl) ?_)
                  | (refine wl_lit1 el_dg rfl (.tmp 54) rfl (d.map bv) rfl HPL.out (by decide) ?_)
                  | (at_builtin; refine wl_app_at el_dg hI7 0 rfl (.tmp 53) (.tmp 55) rfl gm _ _ _ _ rfl rfl (w6.heap.size + 1) _ 1 1 (d.map bv) rfl hrd7 (bv_one _) (by omega) (by simp; omega) (by intro g hg h; exact ⟨fun g' e => (by injection e with e; subst e; exact hg), fun g' e => (by injection e with e; subst e; exact hg), fun g' e => (by injection e with e; omega), trivial⟩) ?_; intro A7 c7 w7 hI8 hs8))
                simp only [List.set_cons_zero] at hI8
                refine ⟨⟨j + 1, A7, c7, o ++ [d], by omega, by go_num, by rw [List.length_append]; rfl, by rw [List.length_append, List.length_singleton]; omega, HO2, ?_⟩, by simp [intOf]; omega⟩
                rw [List.length_append, List.length_singleton, dvs_snoc]
                exact hI8
        · have d2 : decide ((j : Int) < (row.length : Int)) = false := by simp; omega
          have HO2 : Hid (o = linksW (ls.take (k + 1)).flatten) := Lib.hid (by rw [HFL.out, HO.out, show row.take j = row from List.take_of_length_le (by omega)])
          clear HO
          go_wp2_with fail
          exact ⟨⟨k + 1, A', c', o, by omega, by go_num, rfl, by omega, HO2, hI.1, hI.2.2⟩, by simp [intOf]; omega⟩
    · have d1 : decide ((k : Int) < (nl : Int)) = false := by simp; omega
      have HF : Hid (r = o) := Lib.hid (by rw [HLB.out, HO.out, List.take_of_length_le (by rw [HLL.out]; omega)])
      clear HO
      go_wp2_with fail
      go_ret
      rw [HF.out]
      exact ⟨A', c', rfl, (hI.at_ 0 rfl : Go.Adm.Own _ _ _ _ _ _ _ _).less hgw, (hI.at_ 2 rfl : _ ∧ _).1⟩
end Go.Proofs.YtkcmaembpfakdaaGreatDoor

/- Approvals are decoded: the reference. -/
import Derived.Test.YthlfafkakijjfaaDoorRelD
import Derived.Test.YthlfafkakijjfaaDoorRelE
import Derived.Test.YthlfafkakijjfaaDoorParR
import Derived.Test.YthlfafkakijjfaaDoorDec5
set_option linter.unusedSimpArgs false
set_option linter.unusedVariables false
set_option maxRecDepth 100000
namespace Go.Adm
open Go Go.RowKit Go.AdP
/-- the cells of a line -/
def Low.line (B : Nat) (adL rad : Addr) (c2 : Nat) (d t : ByteArray) (h1 : adL.block < B) (h2 : rad.block < B) : Low :=
  ⟨B, fun W => W.cell? adL = some (.slice (some rad) 3 c2) ∧ W.cell? ⟨rad.block, rad.off + 1, none⟩ = some (.string d) ∧ W.cell? ⟨rad.block, rad.off + 2, none⟩ = some (.string t), fun _ _ hk h => ⟨(hk adL h1).trans h.1, (hk ⟨rad.block, rad.off + 1, none⟩ h2).trans h.2.1, (hk ⟨rad.block, rad.off + 2, none⟩ h2).trans h.2.2⟩⟩
theorem fill_app (x : App) (h : x.d.length = 32) : Instr.fill (#[(0, 32), (32, 1)][·]?) appZ.toArray [(0, .agg (x.d.map bv).toArray), (1, .int .i64 x.t)] = some (appC x).toArray := by
  refine (fill_step (off := 0) (size := 32) (es := x.d.map bv) (pre := []) (old := z32.map bv) (post := [.int .i64 0]) rfl rfl rfl rfl rfl (by simp [h])).trans ?_
  refine (fill_step (off := 32) (size := 1) (es := [.int .i64 x.t]) (pre := x.d.map bv) (old := [.int .i64 0]) (post := []) rfl (by simp) (by simp [h]) rfl rfl rfl).trans ?_
  simp [Instr.fill, appC]
end Go.Adm
namespace Go.Proofs.YthlfafkakijjfaaDoor
open Go Go.RowKit Go.Adm Go.AdP
theorem apartL {g B1 : Nat} {w : World} {ty : TypeId} {adL rad : Addr} {c2 : Nat} {d t : ByteArray} {h1 : adL.block < B1} {h2 : rad.block < B1} {cs : List Value} (hg : B1 ≤ g) (h0 : w.heap.size < B1) : Apart (some g) [.low (.line B1 adL rad c2 d t h1 h2), .cells w.heap.size ty cs, .kept w w.heap.size] := by
  refine ⟨fun g' hg' => ?_, ?_, ?_, trivial⟩
  · injection hg' with e; subst e; exact hg
  · simp [Res.apart]; omega
  · simp [Res.apart]; omega
set_option maxHeartbeats 6400000 in
theorem refDecodeApproval_any (w : World) (m : Int) (hm : w.cell? ⟨0, 0, none⟩ = some (.int .i64 m)) (B : Nat) (A : Option Addr) (n c : Nat) (b : List UInt8) (hb : Rd w B 1 A n (b.map bv)) (hnc : n ≤ c) (hcm : c ≤ maxLen) (hB : B ≤ w.heap.size) :
    Calls Tryd.prog 13 #[.slice A n c] w fun e w' => e = .returned (.tuple #[.agg (appC (appD b).1).toArray, .int .i64 (appD b).2]) ∧ Below w.heap.size w w' := by
  have hR : All w [.low (.rd B 1 A n (b.map bv)), .kept w w.heap.size] := ⟨⟨hb, hB⟩, ⟨Below.refl _ _, Nat.le_refl _⟩, trivial⟩
  have hgm : 0 < w.heap.size := World.block_lt_of_cell? w _ hm
  have hzr := zero_app
  have hzd := zero_dg
  have HM := Lib.hid hm
  have HNC := Lib.hid hnc
  have HCM := Lib.hid hcm
  clear hb hnc hcm hm
  go_enter Tryd.func13, Tryd.ntmps13
  go_upto_region 1 with (fail)
  refine wp_gen (hR.new (l := appZ) _ 31 rfl rfl) ?_
  intro W1 hW1
  have HDc := Lib.hid (refDecode_any W1 m (((hW1.at_ 2 rfl : _ ∧ _).1.cell hgm).trans HM.out) (Nat.lt_of_lt_of_le hgm (hW1.at_ 2 rfl : _ ∧ _).2) B A n c b (hW1.at_ 1 rfl : _ ∧ _).1 HNC.out HCM.out (hW1.at_ 1 rfl : _ ∧ _).2)
  clear hR
  go_upto_region 2 with (go_at_call 29; refine HDc.out.mono ?_; clear HDc; rintro e w1 ⟨A1, m1, c1, rfl, hLn, hmc, hcm1, hbl⟩)
  have hI0 := hW1.call hbl
  have hI5 : All w1 [.cells w.heap.size 31 appZ, .kept w w.heap.size] := ⟨hI0.1, hI0.2.2⟩
  have hs5 : w.heap.size < w1.heap.size := Cells.lt (hI5.at_ 0 rfl)
  clear hI0 hW1 hbl
  by_cases q0 : (decR b).2 = 0
  · rw [q0]
    by_cases q1 : (decR b).1.length = 1
    · obtain ⟨l, hl⟩ : ∃ l, (decR b).1 = [l] := by
        match hx : (decR b).1, q1 with
        | [l], _ => exact ⟨l, rfl⟩
      have HF := Lib.hid (appF_one q0 hl)
      rw [hl] at hLn
      have hm1 : m1 = 1 := by have := hLn.len; simpa using this.symm
      obtain ⟨adL, A2, c2, rfl, hLb, hcl, hc2, hc2m, hSt⟩ := hLn.at_ (k := 0) (by simp)
      rw [add_zero] at hcl
      have hcl' : w1.cell? adL = some (.slice A2 l.length c2) := hcl
      subst hm1
      clear hcl hLn q1 hl
      by_cases q2 : l.length = 3
      · obtain ⟨k, d, t, rfl⟩ : ∃ k d t, l = [k, d, t] := by
          match l, q2 with
          | [k, d, t], _ => exact ⟨k, d, t, rfl⟩
        obtain ⟨rad, rfl, hRb, s0, _⟩ := hSt.at_ (k := 0) (by simp)
        obtain ⟨rad1, e1, _, s1, _⟩ := hSt.at_ (k := 1) (by simp)
        obtain ⟨rad2, e2, _, s2, z2⟩ := hSt.at_ (k := 2) (by simp)
        obtain rfl := Option.some.inj e1
        obtain rfl := Option.some.inj e2
        have s0' : w1.cell? rad = some (.string k) := by rw [add_zero] at s0; exact s0
        have s1' : w1.cell? ⟨rad.block, rad.off + 1, none⟩ = some (.string d) := s1
        have s2' : w1.cell? ⟨rad.block, rad.off + 2, none⟩ = some (.string t) := s2
        have hcl3 : w1.cell? adL = some (.slice (some rad) 3 c2) := hcl'
        have k1 : (2 : Int) < 3 := by omega
        by_cases q3 : k.toList = [97, 112, 112, 114, 111, 118, 97, 108]
        · have d3 : (!(k.toList == [97, 112, 112, 114, 111, 118, 97, 108])) = false := by rw [q3]; rfl
          have HFD : Hid ((parseD d.data.toList).isSome = false → appF b = none) := Lib.hid (fun h => by rw [HF.out]; exact appLn_d h)
          have HFT : Hid ((parseS t.data.toList).isSome = false → appF b = none) := Lib.hid (fun h => by rw [HF.out]; exact appLn_t h)
          have HFO : Hid ((parseD d.data.toList).isSome = true → (parseS t.data.toList).isSome = true → ∃ x, appF b = some x ∧ appS d t 2 = appC x ∧ x.d.length = 32) := Lib.hid (fun h h' => by rw [HF.out]; exact appLn_ok q3 h h')
          have Q0 := Lib.hid q0
          have hI6 := hI5.cons (r := .low (.line w1.heap.size adL rad c2 d t hLb hRb)) ⟨⟨hcl3, s1', s2'⟩, Nat.le_refl _⟩
          have HP := Lib.hid (fun W => refParse_any d W)
          have HN := Lib.hid (fun W => refParseN_any t W)
          have HPL : Hid ((parsed d.data.toList).length = 32) := Lib.hid (parsed_len _)
          have HAS : Hid (appS d t 2 = (parsed d.data.toList).map bv ++ [.int .i64 (((parseS t.data.toList).getD 0 : Nat) : Int)]) := Lib.hid rfl
          clear s0 s1 s2 hSt e1 e2 hcl' q2 HF q3 q0 hI5
          obtain ⟨pd, hpd⟩ : ∃ q, q = parsed d.data.toList := ⟨_, rfl⟩
          obtain ⟨od, hod⟩ : ∃ q, q = (parseD d.data.toList).isSome := ⟨_, rfl⟩
          obtain ⟨pt, hpt⟩ : ∃ q, q = (((parseS t.data.toList).getD 0 : Nat) : Int) := ⟨_, rfl⟩
          obtain ⟨ot, hot⟩ : ∃ q, q = (parseS t.data.toList).isSome := ⟨_, rfl⟩
          rw [← hpd, ← hod] at HP
          rw [← hpt, ← hot] at HN
          rw [← hpd] at HPL
          rw [← hpd, ← hpt] at HAS
          rw [← hod] at HFD HFO
          rw [← hot] at HFT HFO
          clear hpd hod hpt hot
          have hlw := Cells.lt (hI6.at_ 1 rfl)
          go_upto_region 6 with (fail)
          go_upto_region 7 with (first
            | (go_at_call 30; refine (HP.out _).mono ?_; rintro e w2 ⟨rfl, hb2⟩; have hW2 := (hI6.call hb2).new (l := z32.map bv) (z32.map bv).toArray 24 (g := w2.heap.size) rfl rfl; have hap : Apart (some w2.heap.size) [.low (.line w1.heap.size adL rad c2 d t hLb hRb), .cells w.heap.size 31 appZ, .kept w w.heap.size] := (apartL hb2.size hlw))
            | (refine wl_store_at hW2 0 rfl 24 (.tmp 6) _ rfl w2.heap.size _ _ (pd.map bv) rfl rfl rfl (by rw [List.length_map, HPL.out]; rfl) (by rw [List.length_map, HPL.out]; kernel_rfl) (bv_one _) hap ?_; intro w3 hI3 hs3))
          simp only [List.set_cons_zero] at hI3
          clear hW2 hap hI6 hcl3 s0' s1' s2' d3
          have hw3 : w1.heap.size ≤ w2.heap.size := hb2.size
          clear hb2
          obtain ⟨g6, hg6⟩ : ∃ g, g = w2.heap.size := ⟨_, rfl⟩
          rw [← hg6] at hI3 hw3 ⊢
          clear hg6 hs3
          obtain ⟨x1, x2, x3⟩ := (hI3.at_ 1 rfl : _ ∧ _).1
          go_upto_region 8 with (go_at_call 31; refine (HN.out _).mono ?_; rintro e w4 ⟨rfl, rfl⟩)
          have hI4 : All w4 [.cells g6 24 (pd.map bv), .low (.line w1.heap.size adL rad c2 d t hLb hRb), .cells w.heap.size 31 appZ, .kept w w.heap.size] := hI3
          clear x1 x2 x3
          have hI7 : All w4 [.cells w.heap.size 31 appZ, .kept w w.heap.size] := ⟨hI4.2.2.1, hI4.2.2.2⟩
          cases od with
          | false =>
            have HNo := Lib.hid (HFD.out rfl)
            have HR : Hid (appD b = (appN, 2)) := Lib.hid (by rw [appD_bad (by rw [appE_none Q0.out HNo.out]; decide), appE_none Q0.out HNo.out])
            clear HFD HFT HFO hI3
            go_wp2_with (first
              | (refine wl_build rfl 31 [] rfl _ _ #[(0, 32), (32, 1)] appZ.toArray zero_app Tryd.underlying31 (fun w => by kernel_rfl) ?_ ?_; rfl)
              | (refine wl_store_at hI7 0 rfl 31 (.tmp 2) (.tmp 63) rfl w.heap.size _ _ appZ rfl rfl rfl rfl (by kernel_rfl) appZ_one (by simp [Apart, Res.apart]) ?_; intro w9 hI9 hs9))
            refine bodyPost_ret (v := .tuple #[.agg appZ.toArray, .int .i64 2]) ?_ rfl ⟨by rw [HR.out]; rfl, (hI9.at_ 1 rfl : _ ∧ _).1⟩
            exact results_row_tmp (p := 2) (q := 3) rfl _ _ w.heap.size 31 appZ.toArray (0, 0) _ rfl (hI9.at_ 0 rfl) Tryd.underlying31 rfl (by kernel_rfl)
          | true =>
            cases ot with
            | false =>
              have HNo := Lib.hid (HFT.out rfl)
              have HR : Hid (appD b = (appN, 2)) := Lib.hid (by rw [appD_bad (by rw [appE_none Q0.out HNo.out]; decide), appE_none Q0.out HNo.out])
              clear HFD HFT HFO hI3
              go_wp2_with (first
                | (refine wl_build rfl 31 [] rfl _ _ #[(0, 32), (32, 1)] appZ.toArray zero_app Tryd.underlying31 (fun w => by kernel_rfl) ?_ ?_; rfl)
                | (refine wl_store_at hI7 0 rfl 31 (.tmp 2) (.tmp 63) rfl w.heap.size _ _ appZ rfl rfl rfl rfl (by kernel_rfl) appZ_one (by simp [Apart, Res.apart]) ?_; intro w9 hI9 hs9))
              refine bodyPost_ret (v := .tuple #[.agg appZ.toArray, .int .i64 2]) ?_ rfl ⟨by rw [HR.out]; rfl, (hI9.at_ 1 rfl : _ ∧ _).1⟩
              exact results_row_tmp (p := 2) (q := 3) rfl _ _ w.heap.size 31 appZ.toArray (0, 0) _ rfl (hI9.at_ 0 rfl) Tryd.underlying31 rfl (by kernel_rfl)
            | true =>
              obtain ⟨x, hx, hxs, hxl⟩ := HFO.out rfl rfl
              have HDX := Lib.hid (appD_ok hx)
              have HXL := Lib.hid hxl
              have HL := Lib.hid (appC_len x hxl)
              have HON := Lib.hid (appC_one x)
              have hxc : (pd.map bv ++ [Value.int .i64 pt]) = appC x := HAS.out.symm.trans hxs
              have hfl : Instr.fill (#[(0, 32), (32, 1)][·]?) appZ.toArray [(0, .agg (pd.map bv).toArray), (1, .int .i64 pt)] = some (appC x).toArray := by rw [← hxc]; exact fill_app ⟨pd, pt⟩ HPL.out
              have HFL := Lib.hid hfl
              clear HFD HFT HFO hx hxs hxl hxc hfl hI3
              have hI8 := hI7.cons (r := .cells g6 24 (pd.map bv)) hI4.1
              have hI9 := (hI8.new (l := appZ) appZ.toArray 31 (g := w4.heap.size) rfl rfl)
              have hl4 := Cells.lt (hI7.at_ 0 rfl)
              have hg64 := Cells.lt hI4.1
              have hap9 : Apart (some w4.heap.size) [.cells g6 24 (pd.map bv), .cells w.heap.size 31 appZ, .kept w w.heap.size] := by
                simp [Apart, Res.apart]; omega
              go_upto_region 11 with (first
                | (refine wl_load_any rfl 24 (.tmp 6) rfl ⟨g6, 0, none⟩ rfl (pd.map bv) _ (cell_all (hI8.at_ 0 rfl)) Tryd.underlying24 rfl (by rw [List.length_map, HPL.out]; kernel_rfl) ?_)
                | (refine wl_build rfl 31 [(0, .tmp 64), (1, .tmp 65)] rfl _ _ #[(0, 32), (32, 1)] (appC x).toArray zero_app Tryd.underlying31 (fun w => by kernel_rfl) ?_ ?_; exact HFL.out)
                | (refine wl_store_at hI9 0 rfl 31 (.tmp 10) (.tmp 66) rfl w4.heap.size _ _ (appC x) rfl rfl rfl (by rw [HL.out]; rfl) (by rw [HL.out]; kernel_rfl) HON.out hap9 ?_; intro w5 hJ5 hs5'))
              simp only [List.set_cons_zero] at hJ5
              clear hI8 hI9 hap9 hI7 hI4 hs5'
              obtain ⟨g10, hg10⟩ : ∃ g, g = w4.heap.size := ⟨_, rfl⟩
              rw [← hg10] at hJ5 hl4 hg64 ⊢
              clear hg10
              have hJ6 : All w5 [.cells g10 31 (appC x), .cells w.heap.size 31 appZ, .kept w w.heap.size] := ⟨hJ5.1, hJ5.2.2⟩
              clear hJ5
              cases hv : appB x with
              | false =>
                have HVA : Hid (∀ W, Calls Tryd.prog 12 #[.agg (appC x).toArray] W fun e w' => e = .returned (.bool false) ∧ Below W.heap.size W w') := Lib.hid (fun W => by have h := refAppValid_any W x HXL.out; rwa [hv] at h)
                have HR : Hid (appD b = (appN, 1)) := Lib.hid (by rw [HDX.out, hv]; rfl)
                clear hv HDX
                go_wp2_with (first
                  | (refine wl_load_any rfl 31 (.tmp 10) rfl ⟨g10, 0, none⟩ rfl (appC x) _ (cell_all (hJ6.at_ 0 rfl)) Tryd.underlying31 rfl (by rw [HL.out]; kernel_rfl) ?_)
                  | (go_at_call 12; refine (HVA.out _).mono ?_; rintro e w6 ⟨rfl, hb6⟩; have hJ7 := hJ6.call hb6)
                  | (refine wl_build rfl 31 [] rfl _ _ #[(0, 32), (32, 1)] appZ.toArray zero_app Tryd.underlying31 (fun w => by kernel_rfl) ?_ ?_; rfl)
                  | (refine wl_store_at hJ7 1 rfl 31 (.tmp 2) (.tmp 70) rfl w.heap.size _ _ appZ rfl rfl rfl rfl (by kernel_rfl) appZ_one (by simp [Apart, Res.apart]; omega) ?_; intro w9 hI9 hs9))
                refine bodyPost_ret (v := .tuple #[.agg appZ.toArray, .int .i64 1]) ?_ rfl ⟨by rw [HR.out]; rfl, (hI9.at_ 2 rfl : _ ∧ _).1⟩
                exact results_row_tmp (p := 2) (q := 3) rfl _ _ w.heap.size 31 appZ.toArray (0, 0) _ rfl (hI9.at_ 1 rfl) Tryd.underlying31 rfl (by kernel_rfl)
              | true =>
                have HVA : Hid (∀ W, Calls Tryd.prog 12 #[.agg (appC x).toArray] W fun e w' => e = .returned (.bool true) ∧ Below W.heap.size W w') := Lib.hid (fun W => by have h := refAppValid_any W x HXL.out; rwa [hv] at h)
                have HR : Hid (appD b = (x, 0)) := Lib.hid (by rw [HDX.out, hv]; rfl)
                clear hv HDX
                go_wp2_with (first
                  | (refine wl_load_any rfl 31 (.tmp 10) rfl ⟨g10, 0, none⟩ rfl (appC x) _ (cell_all (hJ6.at_ 0 rfl)) Tryd.underlying31 rfl (by rw [HL.out]; kernel_rfl) ?_)
                  | (go_at_call 12; refine (HVA.out _).mono ?_; rintro e w6 ⟨rfl, hb6⟩; have hJ7 := hJ6.call hb6)
                  | (refine wl_load_any rfl 31 (.tmp 10) rfl ⟨g10, 0, none⟩ rfl (appC x) _ (cell_all (hJ7.at_ 0 rfl)) Tryd.underlying31 rfl (by rw [HL.out]; kernel_rfl) ?_)
                  | (refine wl_store_at hJ7 1 rfl 31 (.tmp 2) (.tmp 71) rfl w.heap.size _ _ (appC x) rfl rfl rfl (by rw [HL.out]; rfl) (by rw [HL.out]; kernel_rfl) HON.out (by simp [Apart, Res.apart]; omega) ?_; intro w9 hI9 hs9))
                refine bodyPost_ret (v := .tuple #[.agg (appC x).toArray, .int .i64 0]) ?_ rfl ⟨by rw [HR.out], (hI9.at_ 2 rfl : _ ∧ _).1⟩
                exact results_row_tmp (p := 2) (q := 3) rfl _ _ w.heap.size 31 (appC x).toArray (0, 0) _ rfl (hI9.at_ 1 rfl) Tryd.underlying31 rfl (by rw [List.size_toArray, HL.out]; kernel_rfl)
        · have d3 : (!(k.toList == [97, 112, 112, 114, 111, 118, 97, 108])) = true := by simp [q3]
          have HN : Hid (appF b = none) := Lib.hid (by rw [HF.out]; exact appLn_word q3)
          have HR : Hid (appD b = (appN, 2)) := Lib.hid (by rw [appD_bad (by rw [appE_none q0 HN.out]; decide), appE_none q0 HN.out])
          clear HN
          go_wp2_with (first
            | (refine wl_build rfl 31 [] rfl _ _ #[(0, 32), (32, 1)] appZ.toArray zero_app Tryd.underlying31 (fun w => by kernel_rfl) ?_ ?_; rfl)
            | (refine wl_store_at hI5 0 rfl 31 (.tmp 2) (.tmp 38) rfl w.heap.size _ _ appZ rfl rfl rfl rfl (by kernel_rfl) appZ_one (by simp [Apart, Res.apart]) ?_; intro w9 hI9 hs9))
          refine bodyPost_ret (v := .tuple #[.agg appZ.toArray, .int .i64 2]) ?_ rfl ⟨by rw [HR.out]; rfl, (hI9.at_ 1 rfl : _ ∧ _).1⟩
          exact results_row_tmp (p := 2) (q := 3) rfl _ _ w.heap.size 31 appZ.toArray (0, 0) _ rfl (hI9.at_ 0 rfl) Tryd.underlying31 rfl (by kernel_rfl)
      · have HN : Hid (appF b = none) := Lib.hid (by rw [HF.out]; exact appLn_len q2)
        have d2 : ((l.length : Int) != 3) = true := by simp; omega
        generalize l.length = m2 at *
        have HR : Hid (appD b = (appN, 2)) := Lib.hid (by rw [appD_bad (by rw [appE_none q0 HN.out]; decide), appE_none q0 HN.out])
        clear HN
        go_wp2_with (first
          | (refine wl_build rfl 31 [] rfl _ _ #[(0, 32), (32, 1)] appZ.toArray zero_app Tryd.underlying31 (fun w => by kernel_rfl) ?_ ?_; rfl)
          | (refine wl_store_at hI5 0 rfl 31 (.tmp 2) (.tmp 38) rfl w.heap.size _ _ appZ rfl rfl rfl rfl (by kernel_rfl) appZ_one (by simp [Apart, Res.apart]) ?_; intro w9 hI9 hs9))
        refine bodyPost_ret (v := .tuple #[.agg appZ.toArray, .int .i64 2]) ?_ rfl ⟨by rw [HR.out]; rfl, (hI9.at_ 1 rfl : _ ∧ _).1⟩
        exact results_row_tmp (p := 2) (q := 3) rfl _ _ w.heap.size 31 appZ.toArray (0, 0) _ rfl (hI9.at_ 0 rfl) Tryd.underlying31 rfl (by kernel_rfl)
    · have HN : Hid (appF b = none) := Lib.hid (appF_len q1)
      have hm1 : m1 ≠ 1 := by have := hLn.len; omega
      have d1 : ((m1 : Int) != 1) = true := by simp; omega
      have HR : Hid (appD b = (appN, 2)) := Lib.hid (by rw [appD_bad (by rw [appE_none q0 HN.out]; decide), appE_none q0 HN.out])
      clear HN
      go_wp2_with (first
        | (refine wl_build rfl 31 [] rfl _ _ #[(0, 32), (32, 1)] appZ.toArray zero_app Tryd.underlying31 (fun w => by kernel_rfl) ?_ ?_; rfl)
        | (refine wl_store_at hI5 0 rfl 31 (.tmp 2) (.tmp 38) rfl w.heap.size _ _ appZ rfl rfl rfl rfl (by kernel_rfl) appZ_one (by simp [Apart, Res.apart]) ?_; intro w9 hI9 hs9))
      refine bodyPost_ret (v := .tuple #[.agg appZ.toArray, .int .i64 2]) ?_ rfl ⟨by rw [HR.out]; rfl, (hI9.at_ 1 rfl : _ ∧ _).1⟩
      exact results_row_tmp (p := 2) (q := 3) rfl _ _ w.heap.size 31 appZ.toArray (0, 0) _ rfl (hI9.at_ 0 rfl) Tryd.underlying31 rfl (by kernel_rfl)
  · have HR : Hid (appD b = (appN, (decR b).2)) := Lib.hid (by rw [appD_bad (by rw [appE_bad q0]; exact q0), appE_bad q0])
    obtain ⟨q, hq⟩ : ∃ q, q = (decR b).2 := ⟨_, rfl⟩
    rw [← hq] at HR q0 ⊢
    have d0 : (q != 0) = true := by simpa using q0
    clear hq hLn q0
    go_wp2_with (first
      | (refine wl_build rfl 31 [] rfl _ _ #[(0, 32), (32, 1)] appZ.toArray zero_app Tryd.underlying31 (fun w => by kernel_rfl) ?_ ?_; rfl)
      | (refine wl_store_at hI5 0 rfl 31 (.tmp 2) (.tmp 18) rfl w.heap.size _ _ appZ rfl rfl rfl rfl (by kernel_rfl) appZ_one (by simp [Apart, Res.apart]) ?_; intro w9 hI9 hs9))
    refine bodyPost_ret (v := .tuple #[.agg appZ.toArray, .int .i64 q]) ?_ rfl ⟨by rw [HR.out]; rfl, (hI9.at_ 1 rfl : _ ∧ _).1⟩
    exact results_row_tmp (p := 2) (q := 3) rfl _ _ w.heap.size 31 appZ.toArray (0, 0) _ rfl (hI9.at_ 0 rfl) Tryd.underlying31 rfl (by kernel_rfl)
end Go.Proofs.YthlfafkakijjfaaDoor


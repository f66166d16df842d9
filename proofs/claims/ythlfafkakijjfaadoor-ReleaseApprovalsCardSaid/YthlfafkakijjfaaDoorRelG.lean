/- The law ReleaseApprovals. -/
import Derived.Test.YthlfafkakijjfaaDoorRelF
import Derived.Test.YthlfafkakijjfaaDoorRel5
set_option linter.unusedSimpArgs false
set_option linter.unusedVariables false
set_option maxRecDepth 100000
namespace Go.Adm
open Go Go.RowKit Go.AdP
theorem wl_met {P : Program} {ops : Array Oper} {rest : List Oper} {o : Oper} {a : Act} {w : World} {Q : Exit → Act → World → Prop} (hw : Region.wanted o (yielded ops a.tmps) = true)
    (h : o.wp P a w (wpList P ops Q rest) Q) : wpList P ops Q (o :: rest) a w := by
  unfold wpList
  rw [if_pos hw]
  exact .inl h
def pE (x : App) : Int := if appB x = true then docE (appL x) else 1
def pB (x : App) : List UInt8 := if pE x = 0 then encD (appL x) else []
theorem pE_zero {x : App} (h : pE x = 0) : appB x = true ∧ docE (appL x) = 0 := by
  unfold pE at h
  split at h
  · rename_i h1; exact ⟨h1, h⟩
  · cases h
theorem app_back {x : App} (hd : x.d.length = 32) (h : pE x = 0) : appD (pB x) = (x, 0) := by
  obtain ⟨hv, hE⟩ := pE_zero h
  have hb : pB x = encD (appL x) := by unfold pB; rw [if_pos h]
  have h1 : ¬ 1000 < (appL x).length := by have : (appL x).length = 1 := rfl; omega
  have h2 : linesE (appL x) = 0 := by
    apply Classical.byContradiction
    intro hne
    rw [docE_line h1 hne] at hE
    exact hne hE
  have h3 : ¬ 262144 < (encD (appL x)).length := by
    intro hl
    rw [docE_long h1 h2 hl] at hE
    cases hE
  have hR : decR (encD (appL x)) = (appL x, 0) := by
    unfold decR
    rw [if_neg h3, decO_doc h2]
    simp only
    rw [if_neg h1]
  have ht : 0 ≤ x.t ∧ x.t ≤ 1099511627776 := by
    unfold appB at hv
    simp only [Bool.and_eq_true, decide_eq_true_eq] at hv
    exact hv.2
  have hF : appF (pB x) = some x := by
    rw [hb, appF_one (by rw [hR]) (by rw [hR]; rfl)]
    unfold appLn
    simp only
    rw [if_pos (by rw [ByteArray.toList_eq]), parseD_fmt _ hd, parse_num, if_pos ht]
    simp only
    have : ((x.t.toNat : Nat) : Int) = x.t := by omega
    rw [this]
  rw [appD_ok hF, if_pos hv]
theorem appD_t (b : List UInt8) : 0 ≤ (appD b).1.t ∧ (appD b).1.t ≤ 1099511627776 := by
  unfold appD
  split
  · rename_i x h
    split
    · rename_i hv
      unfold appB at hv
      simp only [Bool.and_eq_true, decide_eq_true_eq] at hv
      exact hv.2
    · exact ⟨(by show (0 : Int) ≤ 0; decide), (by show (0 : Int) ≤ 1099511627776; decide)⟩
  · exact ⟨(by show (0 : Int) ≤ 0; decide), (by show (0 : Int) ≤ 1099511627776; decide)⟩
theorem kl_i64 {P : Program} {e : TypeId} (he : P.underlying e = some (.int .i64)) (v : Int) (h0 : -9223372036854775808 ≤ v) (h1 : v ≤ 9223372036854775807) (d : Nat) : P.keyLits (d + 1) e [.int .i64 v] = some [.int .i64 v] := by
  unfold Program.keyLits
  rw [he]
  have hw : (Lit.int .i64 v).wf = true := by
    have h2 : IntKind.i64.min = -9223372036854775808 := rfl
    have h3 : IntKind.i64.max = 9223372036854775807 := rfl
    simp [Lit.wf, h2, h3]; omega
  simp [hw]
end Go.Adm
namespace Go.Proofs.YthlfafkakijjfaaDoor
open Go Go.RowKit Go.Adm Go.AdP
theorem kl_app (x : App) (hd : x.d.length = 32) (h0 : 0 ≤ x.t) (h1 : x.t ≤ 1099511627776) : Tryd.prog.keyLits 3 31 (appC x) = some (x.d.map bl ++ [.int .i64 x.t]) := by
  have e1 : (appC x).take 32 = x.d.map bv := by have := appC_0 x hd; rwa [List.drop_zero] at this
  have e2 : ((appC x).drop 32).take 1 = [.int .i64 x.t] := by unfold appC; rw [List.drop_left' (by rw [List.length_map, hd])]; rfl
  have k1 := kl_bytes (P := Tryd.prog) Tryd.underlying24 Tryd.underlying5 (by kernel_rfl) (by kernel_rfl) x.d hd
  have k2 := kl_i64 (P := Tryd.prog) Tryd.underlying2 x.t (by omega) (by omega) 1
  have c1 : Tryd.prog.cellsOf 31 = 33 := by kernel_rfl
  have c2 : Tryd.prog.cellsOf 24 = 32 := by kernel_rfl
  have c3 : Tryd.prog.cellsOf 2 = 1 := by kernel_rfl
  unfold Program.keyLits
  rw [Tryd.underlying31]
  simp [appC_len x hd, c1, c2, c3, List.mapM_cons, e1, e2, k1, k2]
theorem fm_app (x : App) (hd : x.d.length = 32) : (Value.agg (appC x).toArray).formed Tryd.prog 31 = true := by
  have hl := appC_len x hd
  generalize appC x = l at *
  have hc : Tryd.prog.cellsOf 31 = 33 := by kernel_rfl
  simp [Value.formed, Tryd.underlying31, hl, hc]
theorem eq_app (w : World) (x : App) (hd : x.d.length = 32) (h0 : 0 ≤ x.t) (h1 : x.t ≤ 1099511627776) : (binOp .eql 31 (.agg (appC x).toArray) (.agg (appC x).toArray)).run Tryd.prog w = .ok (.bool true) w :=
  run_eq_deep w 3 31 (by decide) (by kernel_rfl) (fm_app x hd) (fm_app x hd) (kl_app x hd h0 h1) (kl_app x hd h0 h1) true (by simp)
theorem ne_app (w : World) (x : App) (hd : x.d.length = 32) (h0 : 0 ≤ x.t) (h1 : x.t ≤ 1099511627776) : (binOp .neq 31 (.agg (appC x).toArray) (.agg (appC x).toArray)).run Tryd.prog w = .ok (.bool false) w := by
  have h := eq_app w x hd h0 h1
  rw [run_eql_struct] at h
  rw [run_neq_struct]
  revert h
  generalize (Op.equalIn 10000 31 _ _).run Tryd.prog w = q
  intro h
  cases q with
  | ok b w' =>
    simp only [Result.andThen, Result.ok.injEq, Value.bool.injEq] at h ⊢
    exact ⟨by rw [h.1]; rfl, h.2⟩
  | _ => simp [Result.andThen] at h
/-- what both sides return for an approval -/
def EncAP (x : App) (w : World) (e : Ending) (w' : World) : Prop := ∃ A n c, e = .returned (.tuple #[.slice A n c, .int .i64 (pE x)]) ∧ Below w.heap.size w w' ∧ Rd w' w'.heap.size 1 A n ((pB x).map bv) ∧ n ≤ c ∧ c ≤ maxLen
theorem encAP {x : App} {w w' : World} {e : Ending} (h : AppPost x w e w') : EncAP x w e w' := by
  obtain ⟨a, b, rfl, hb, hy, hn⟩ := h
  cases hv : appB x with
  | true =>
    obtain ⟨A, n, c, rfl, rfl, ho, hz⟩ := hy hv
    have hE : pE x = docE (appL x) := by unfold pE; rw [if_pos hv]
    by_cases h0 : docE (appL x) = 0
    · have hB : pB x = encD (appL x) := by unfold pB; rw [hE, if_pos h0]
      exact ⟨A, n, c, by rw [hE], hb, by rw [hB]; exact Own.rd (ho h0), (Own.cap (ho h0)).1, (Own.cap (ho h0)).2⟩
    · obtain ⟨rfl, rfl, rfl⟩ := hz h0
      have hB : pB x = [] := by unfold pB; rw [hE, if_neg h0]
      exact ⟨none, 0, 0, by rw [hE], hb, by rw [hB]; exact Rd.nil, Nat.le_refl _, by decide⟩
  | false =>
    obtain ⟨rfl, rfl⟩ := hn hv
    have hE : pE x = 1 := by unfold pE; rw [if_neg (by rw [hv]; simp)]
    have hB : pB x = [] := by unfold pB; rw [hE]; rfl
    exact ⟨none, 0, 0, by rw [hE], hb, by rw [hB]; exact Rd.nil, Nat.le_refl _, by decide⟩
theorem apart1 {W : World} {g : Nat} {t : TypeId} {cs : List Value} {rs : List Res} (h : All W (.cells g t cs :: rs)) : Res.apart (some W.heap.size) (.cells g t cs) := by
  have := Cells.lt h.1
  simp [Res.apart]; omega
theorem apart5 {W w : World} {gr B B1 n n1 : Nat} {t1 t2 : TypeId} {A A1 : Option Addr} {b bs : List UInt8} {r x : List Value} (h : All W [.cells gr t1 r, .low (.rd B1 1 A1 n1 (bs.map bv)), .cells w.heap.size t2 x, .low (.rd B 1 A n (b.map bv)), .kept w w.heap.size]) :
    Apart (some W.heap.size) [.cells gr t1 r, .low (.rd B1 1 A1 n1 (bs.map bv)), .cells w.heap.size t2 x, .low (.rd B 1 A n (b.map bv)), .kept w w.heap.size] := by
  have h1 := Cells.lt h.1
  have h2 := (h.at_ 1 rfl : _ ∧ B1 ≤ W.heap.size).2
  have h3 := Cells.lt h.2.2.1
  have h4 := (h.at_ 3 rfl : _ ∧ B ≤ W.heap.size).2
  refine ⟨?_, fun g hg => ?_, ?_, fun g hg => ?_, fun g hg => ?_, trivial⟩
  · simp [Res.apart]; omega
  · injection hg with hg; subst hg; exact h2
  · simp [Res.apart]; omega
  · injection hg with hg; subst hg; exact h4
  · injection hg with hg; subst hg; omega
set_option maxHeartbeats 6400000 in
theorem walkApprovals (w : World) (m : Int) (hm : w.cell? ⟨0, 0, none⟩ = some (.int .i64 m)) (x : App) (hd : x.d.length = 32) (h0 : -9223372036854775808 ≤ x.t) (h1 : x.t ≤ 9223372036854775807) (B : Nat) (A : Option Addr) (n c : Nat) (b : List UInt8) (hb : Rd w B 1 A n (b.map bv)) (hnc : n ≤ c) (hcm : c ≤ maxLen) (hB : B ≤ w.heap.size)
    (ht : Lib.TabIs Tryd.prog w "internal/strconv.uint64pow10" .u64 Lib.pow10Tab) :
    Calls Tryd.prog 4 #[.agg (appC x).toArray, .slice A n c] w fun e w' => e = .returned (.bool true) ∧ Below w.heap.size w w' := by
  have hR : All w [.low (.rd B 1 A n (b.map bv)), .kept w w.heap.size] := ⟨⟨hb, hB⟩, ⟨Below.refl _ _, Nat.le_refl _⟩, trivial⟩
  have hgm : 0 < w.heap.size := World.block_lt_of_cell? w _ hm
  have HM : Hid (∀ W, Below w.heap.size w W → W.cell? ⟨0, 0, none⟩ = some (.int .i64 m)) := Lib.hid (fun W hb => (hb.cell hgm).trans hm)
  have HT : Hid (∀ W, Below w.heap.size w W → Lib.TabIs Tryd.prog W "internal/strconv.uint64pow10" .u64 Lib.pow10Tab) := Lib.hid (fun W hb => tab_keep ht hb)
  have HL := Lib.hid (appC_len x hd)
  have HD := Lib.hid hd
  have HNC := Lib.hid hnc
  have HCM := Lib.hid hcm
  have HE1 : Hid (∀ W, Below w.heap.size w W → Calls Tryd.prog 8 #[.agg (appC x).toArray] W (EncAP x W)) := Lib.hid (fun W hb => (EncodeApproval_any W x hd h0 h1 (tab_keep ht hb)).mono fun e w' h => encAP h)
  have HE2 : Hid (∀ W, Below w.heap.size w W → Calls Tryd.prog 10 #[.agg (appC x).toArray] W (EncAP x W)) := Lib.hid (fun W hb => (refEncodeApproval_any W x hd h0 h1 (tab_keep ht hb)).mono fun e w' h => encAP h)
  have HV1' := fun W => appValid_any W x hd
  have HV2' := fun W => refAppValid_any W x hd
  have HBK := Lib.hid (fun h => app_back (x := x) hd h)
  obtain ⟨v, hv⟩ : ∃ v, v = appB x := ⟨_, rfl⟩
  rw [← hv] at HV1' HV2'
  have HV1 := Lib.hid HV1'
  have HV2 := Lib.hid HV2'
  have HTX : Hid (pE x = 0 → 0 ≤ x.t ∧ x.t ≤ 1099511627776) := Lib.hid (fun h => by
    have := (pE_zero h).1
    unfold appB at this
    simp only [Bool.and_eq_true, decide_eq_true_eq] at this
    exact this.2)
  have hzr := zero_app
  clear hb hm ht hnc hcm hd h0 h1 HV1' HV2' hv
  go_enter Tryd.func4, Tryd.ntmps4
  go_upto_region 1 with (fail)
  refine wp_gen (hR.new (l := appC x) _ 31 rfl rfl) ?_
  intro W1 hW1
  have hsz1 : w.heap.size < W1.heap.size := Cells.lt (hW1.at_ 0 rfl)
  clear hR
  cases d1 : decide ((100000 : Int) < (n : Int)) with
  | true =>
    go_wp2_with fail
    go_ret
    exact ⟨rfl, (hW1.at_ 2 rfl : _ ∧ _).1⟩
  | false =>
  go_upto_region 3 with (fail)
  clear d1
  go_upto_region 4 with (first
    | (refine wl_load_any rfl 31 (.tmp 2) rfl ⟨w.heap.size, 0, none⟩ rfl (appC x) _ (cell_all (hW1.at_ 0 rfl)) Tryd.underlying31 rfl (by rw [HL.out]; kernel_rfl) ?_)
    | (go_at_call 8; refine (HE1.out _ (hW1.at_ 2 rfl : _ ∧ _).1).mono ?_; rintro e w1 ⟨A1, n1, c1, rfl, hb1, hr1, hnc1, hcm1⟩))
  have hI1 := (hW1.call hb1).cons (r := .low (.rd w1.heap.size 1 A1 n1 ((pB x).map bv))) ⟨hr1, Nat.le_refl _⟩
  have hs1 := hb1.size
  clear hW1 hb1 hr1
  go_upto_region 5 with (first
    | (refine wl_load_any rfl 31 (.tmp 2) rfl ⟨w.heap.size, 0, none⟩ rfl (appC x) _ (cell_all (hI1.at_ 1 rfl)) Tryd.underlying31 rfl (by rw [HL.out]; kernel_rfl) ?_)
    | (go_at_call 10; refine (HE2.out _ (hI1.at_ 3 rfl : _ ∧ _).1).mono ?_; rintro e w2 ⟨A2, n2, c2, rfl, hb2, hr2, hnc2, hcm2⟩))
  have hI := (hI1.call hb2).cons (r := .low (.rd w2.heap.size 1 A2 n2 ((pB x).map bv))) ⟨hr2, Nat.le_refl _⟩
  have hs2 := hb2.size
  clear hI1 hb2 hr2 HE1 HE2
  obtain ⟨q, hq⟩ : ∃ q, q = pE x := ⟨_, rfl⟩
  rw [← hq] at HBK HTX
  rw [← hq]
  clear hq
  obtain ⟨bs, hbs⟩ : ∃ bs, bs = pB x := ⟨_, rfl⟩
  rw [← hbs] at HBK hI
  clear hbs
  refine wp_region_hops 16 [30, 31, 32, 33, 34, 35, 36, 37, 38, 39, 40, 41, 42, 43, 44, 45] _
    [.eq (.agg (appC x).toArray), .eq (.bool v), .eq (.agg (appC x).toArray), .eq (.bool v), .eq (.bool false), .eq (.bool false), .eq (.int .i64 q), .eq (.int .i64 q), .eq (.bool false), .eq (.bool false), .eq (.bool false), .eq (.slice A1 n1 c1), .eq (.string ⟨bs.toArray⟩), .eq (.slice A2 n2 c2), .eq (.string ⟨bs.toArray⟩), .eq (.bool false)]
    (by kernel_rfl) (by kernel_rfl) hI rfl ?hops ?fin
  case hops =>
    refine ⟨?_, ?_, ?_, ?_, ?_, ?_, ?_, ?_, ?_, ?_, ?_, ?_, ?_, ?_, ?_, ?_, trivial⟩
    · intro a' W hW hb hd K hK
      have b2 := hb 2 rfl
      refine wp_load_any 31 (.tmp 2) rfl ⟨w.heap.size, 0, none⟩ (show a'.eval (.tmp 2) = _ from by simp only [Act.eval, Array.getD_eq_getD_getElem?]; exact b2) (appC x) _ (cell_all (hW.at_ 2 rfl)) Tryd.underlying31 rfl (by rw [HL.out]; kernel_rfl) ?_
      exact hK _ _ (World.grownBy.refl _ _) rfl
    · intro a' W hW hb hd K hK
      have b30 : a'.tmps[30]?.getD undef = _ := hd ⟨0, .data⟩ (by simp) rfl
      go_simp
      refine (HV1.out W).mono ?_
      rintro e w' ⟨rfl, hb'⟩
      exact hK _ _ (grown_of_below hb') rfl
    · intro a' W hW hb hd K hK
      have b2 := hb 2 rfl
      refine wp_load_any 31 (.tmp 2) rfl ⟨w.heap.size, 0, none⟩ (show a'.eval (.tmp 2) = _ from by simp only [Act.eval, Array.getD_eq_getD_getElem?]; exact b2) (appC x) _ (cell_all (hW.at_ 2 rfl)) Tryd.underlying31 rfl (by rw [HL.out]; kernel_rfl) ?_
      exact hK _ _ (World.grownBy.refl _ _) rfl
    · intro a' W hW hb hd K hK
      have b32 : a'.tmps[32]?.getD undef = _ := hd ⟨2, .data⟩ (by simp) rfl
      go_simp
      refine (HV2.out W).mono ?_
      rintro e w' ⟨rfl, hb'⟩
      exact hK _ _ (grown_of_below hb') rfl
    · intro a' W hW hb hd K hK
      have b31 : a'.tmps[31]?.getD undef = _ := hd ⟨1, .data⟩ (by simp) rfl
      have b33 : a'.tmps[33]?.getD undef = _ := hd ⟨3, .data⟩ (by simp) rfl
      go_simp
      exact hK _ _ (World.grownBy.refl _ _) rfl
    · intro a' W hW hb hd K hK
      have b34 : a'.tmps[34]?.getD undef = _ := hd ⟨4, .data⟩ (by simp) rfl
      go_simp
      exact hK _ _ (World.grownBy.refl _ _) rfl
    · refine Or.inl ⟨fun v w h => h, ?_⟩
      intro a' W hW hb hd K hK
      have b6 := hb 6 rfl
      go_simp
      exact hK _ _ (World.grownBy.refl _ _) rfl
    · refine Or.inl ⟨fun v w h => h, ?_⟩
      intro a' W hW hb hd K hK
      have b8 := hb 8 rfl
      go_simp
      exact hK _ _ (World.grownBy.refl _ _) rfl
    · refine Or.inl ⟨fun v w h => h, ?_⟩
      intro a' W hW hb hd K hK
      have b36 : a'.tmps[36]?.getD undef = _ := hd ⟨6, .data⟩ (by simp) rfl
      have b37 : a'.tmps[37]?.getD undef = _ := hd ⟨7, .data⟩ (by simp) rfl
      go_simp
      exact hK _ _ (World.grownBy.refl _ _) rfl
    · intro a' W hW hb hd K hK
      have b35 : a'.tmps[35]?.getD undef = _ := hd ⟨5, .data⟩ (by simp) rfl
      have b38 : a'.tmps[38]?.getD undef = _ := hd ⟨8, .data⟩ (by simp) rfl
      go_simp
      exact hK _ _ (World.grownBy.refl _ _) rfl
    · intro a' W hW hb hd K hK
      have b39 : a'.tmps[39]?.getD undef = _ := hd ⟨9, .data⟩ (by simp) rfl
      go_simp
      exact hK _ _ (World.grownBy.refl _ _) rfl
    · refine Or.inl ⟨fun v w h => h, ?_⟩
      intro a' W hW hb hd K hK
      have b5 := hb 5 rfl
      go_simp
      exact hK _ _ (World.grownBy.refl _ _) rfl
    · refine Or.inl ⟨fun v w h => h, ?_⟩
      intro a' W hW hb hd K hK
      have b41 : a'.tmps[41]?.getD undef = _ := hd ⟨11, .data⟩ (by simp) rfl
      have hcv := run_conv (P := Tryd.prog) W 22 9 5 Tryd.underlying22 Tryd.underlying5 Tryd.underlying9 (c := c1) (hW.at_ 1 rfl : _ ∧ _).1
      go_simp
      exact hK _ _ (World.grownBy.refl _ _) rfl
    · refine Or.inl ⟨fun v w h => h, ?_⟩
      intro a' W hW hb hd K hK
      have b7 := hb 7 rfl
      go_simp
      exact hK _ _ (World.grownBy.refl _ _) rfl
    · refine Or.inl ⟨fun v w h => h, ?_⟩
      intro a' W hW hb hd K hK
      have b43 : a'.tmps[43]?.getD undef = _ := hd ⟨13, .data⟩ (by simp) rfl
      have hcv := run_conv (P := Tryd.prog) W 22 9 5 Tryd.underlying22 Tryd.underlying5 Tryd.underlying9 (c := c2) (hW.at_ 0 rfl : _ ∧ _).1
      go_simp
      exact hK _ _ (World.grownBy.refl _ _) rfl
    · refine Or.inl ⟨fun v w h => h, ?_⟩
      intro a' W hW hb hd K hK
      have b42 : a'.tmps[42]?.getD undef = _ := hd ⟨12, .data⟩ (by simp) rfl
      have b44 : a'.tmps[44]?.getD undef = _ := hd ⟨14, .data⟩ (by simp) rfl
      go_simp
      exact hK _ _ (World.grownBy.refl _ _) rfl
  case fin =>
    intro vs V hV hv
    have e35 : vs 10 = .bool false := hv 10 (by decide)
    have e45 : vs 15 = .bool false := hv 15 (by decide)
    clear hv hI HV1 HV2
    simp only [putAll, Nat.zero_add, Nat.reduceAdd, List.drop_succ_cons, List.drop_zero, e35, e45, Act.put, List.setIfInBounds_toArray, List.set_cons_succ, List.set_cons_zero]
    clear e35 e45
    have hI : All V [.low (.rd w1.heap.size 1 A1 n1 (bs.map bv)), .cells w.heap.size 31 (appC x), .low (.rd B 1 A n (b.map bv)), .kept w w.heap.size] := hV.2
    have hk1 : w1.heap.size ≤ V.heap.size := (hI.at_ 0 rfl : _ ∧ w1.heap.size ≤ V.heap.size).2
    clear hV
    go_upto_region 7 with (fail)
    have hRow := hI.new (l := [.slice A n c, .slice A1 n1 c1]) #[.slice A n c, .slice A1 n1 c1] 22 (g := V.heap.size) rfl rfl
    go_upto_region 8 with (fail)
    refine wp_gen hRow ?_
    intro U hU
    clear hRow hI
    obtain ⟨gr, hgr⟩ : ∃ g, g = V.heap.size := ⟨_, rfl⟩
    rw [← hgr] at hU hk1 ⊢
    clear hgr
    go_loopw [51] (fun i wr => ∃ j : Nat, j ≤ 2 ∧ i = .int .i64 j ∧ All wr [.cells gr 22 [.slice A n c, .slice A1 n1 c1], .low (.rd w1.heap.size 1 A1 n1 (bs.map bv)), .cells w.heap.size 31 (appC x), .low (.rd B 1 A n (b.map bv)), .kept w w.heap.size]) (fun i _ => 2 - (intOf i).toNat)
    case atStart => exact ⟨0, by omega, rfl, hU⟩
    case round =>
      clear hU
      obtain ⟨j, hj, rfl, hI⟩ := hrel
      have r0 : wr.cell? ⟨gr, 0, none⟩ = some (.slice A n c) := cell_at (hI.at_ 0 rfl) (i := 0) rfl
      have r1 : wr.cell? ⟨gr, 1, none⟩ = some (.slice A1 n1 c1) := cell_at (hI.at_ 0 rfl) (i := 1) rfl
      have hgw := Cells.lt (hI.at_ 0 rfl)
      have hww := Cells.lt (hI.at_ 2 rfl)
      match j, hj with
      | 0, _ =>
        have HDP := Lib.hid (fun W hr hB => DecodeApproval_any W B A n c b hr HNC.out HCM.out hB)
        have HDR := Lib.hid (fun W hm hr hB => refDecodeApproval_any W m hm B A n c b hr HNC.out HCM.out hB)
        have HYL := Lib.hid (appC_len (appD b).1 (appD_32 b))
        have HYO := Lib.hid (appC_one (appD b).1)
        have hne := fun W => ne_app W (appD b).1 (appD_32 b) (appD_t b).1 (appD_t b).2
        obtain ⟨y, hy⟩ : ∃ y, y = (appD b).1 := ⟨_, rfl⟩
        obtain ⟨g, hg⟩ : ∃ g, g = (appD b).2 := ⟨_, rfl⟩
        rw [← hy, ← hg] at HDP HDR
        rw [← hy] at HYL HYO hne
        clear hy hg
        go_upto_region 11 with (first
          | (go_at_call 6; refine (HDP.out _ (hI.at_ 3 rfl : _ ∧ _).1 (hI.at_ 3 rfl : _ ∧ _).2).mono ?_; clear HDP; rintro e w5 ⟨rfl, hb5⟩; have hJ5 := (hI.call hb5).new (l := appZ) appZ.toArray 31 (g := w5.heap.size) rfl rfl; have hap5 := apart5 (A := A) (n := n) (b := b) (B := B) (A1 := A1) (n1 := n1) (B1 := w1.heap.size) (bs := bs) (gr := gr) (t1 := 22) (t2 := 31) (w := w) (x := appC x) (r := [.slice A n c, .slice A1 n1 c1]) (hI.call hb5))
          | (refine wl_store_at hJ5 0 rfl 31 (.tmp 11) (.tmp 58) rfl w5.heap.size _ _ (appC y) rfl rfl rfl (by rw [HYL.out]; rfl) (by rw [HYL.out]; kernel_rfl) HYO.out hap5 ?_; intro w6 hJ6 hs6))
        simp only [List.set_cons_zero] at hJ6
        clear hI hJ5 hap5 hs6 r0 r1
        obtain ⟨g11, hg11⟩ : ∃ g, g = w5.heap.size := ⟨_, rfl⟩
        rw [← hg11] at hJ6 ⊢
        clear hg11
        have hg6 := Cells.lt (hJ6.at_ 0 rfl)
        go_upto_region 12 with (first
          | (go_at_call 13; refine (HDR.out _ (HM.out _ (hJ6.at_ 5 rfl : _ ∧ _).1) (hJ6.at_ 4 rfl : _ ∧ _).1 (hJ6.at_ 4 rfl : _ ∧ _).2).mono ?_; clear HDR; rintro e w7 ⟨rfl, hb7⟩; have hJ7 := (hJ6.call hb7).new (l := appZ) appZ.toArray 31 (g := w7.heap.size) rfl rfl; have hap7 : Apart (some w7.heap.size) (.cells g11 31 (appC y) :: [.cells gr 22 [.slice A n c, .slice A1 n1 c1], .low (.rd w1.heap.size 1 A1 n1 (bs.map bv)), .cells w.heap.size 31 (appC x), .low (.rd B 1 A n (b.map bv)), .kept w w.heap.size]) := ⟨apart1 (hJ6.call hb7), apart5 (hJ6.call hb7).2⟩)
          | (refine wl_store_at hJ7 0 rfl 31 (.tmp 13) (.tmp 63) rfl w7.heap.size _ _ (appC y) rfl rfl rfl (by rw [HYL.out]; rfl) (by rw [HYL.out]; kernel_rfl) HYO.out hap7 ?_; intro w8 hJ8 hs8))
        simp only [List.set_cons_zero] at hJ8
        clear hJ6 hJ7 hap7 hs8
        obtain ⟨g13, hg13⟩ : ∃ g, g = w7.heap.size := ⟨_, rfl⟩
        rw [← hg13] at hJ8 ⊢
        clear hg13 hg6
        have hI9 : All w8 [.cells gr 22 [.slice A n c, .slice A1 n1 c1], .low (.rd w1.heap.size 1 A1 n1 (bs.map bv)), .cells w.heap.size 31 (appC x), .low (.rd B 1 A n (b.map bv)), .kept w w.heap.size] := hJ8.2.2
        go_wp2_with (first
          | (refine wl_load_any rfl 31 (.tmp 11) rfl ⟨g11, 0, none⟩ rfl (appC y) _ (cell_all (hJ8.at_ 1 rfl)) Tryd.underlying31 rfl (by rw [HYL.out]; kernel_rfl) ?_)
          | (refine wl_load_any rfl 31 (.tmp 13) rfl ⟨g13, 0, none⟩ rfl (appC y) _ (cell_all (hJ8.at_ 0 rfl)) Tryd.underlying31 rfl (by rw [HYL.out]; kernel_rfl) ?_))
        exact ⟨⟨1, by omega, rfl, hI9⟩, by simp [intOf]⟩
      | 1, _ =>
        have HDP := Lib.hid (fun W hr hB => DecodeApproval_any W w1.heap.size A1 n1 c1 bs hr hnc1 hcm1 hB)
        have HDR := Lib.hid (fun W hm hr hB => refDecodeApproval_any W m hm w1.heap.size A1 n1 c1 bs hr hnc1 hcm1 hB)
        have HYL := Lib.hid (appC_len (appD bs).1 (appD_32 bs))
        have HYO := Lib.hid (appC_one (appD bs).1)
        have hne := fun W => ne_app W (appD bs).1 (appD_32 bs) (appD_t bs).1 (appD_t bs).2
        obtain ⟨y, hy⟩ : ∃ y, y = (appD bs).1 := ⟨_, rfl⟩
        obtain ⟨g, hg⟩ : ∃ g, g = (appD bs).2 := ⟨_, rfl⟩
        rw [← hy, ← hg] at HDP HDR
        rw [← hy] at HYL HYO hne
        clear hy hg
        go_upto_region 11 with (first
          | (go_at_call 6; refine (HDP.out _ (hI.at_ 1 rfl : _ ∧ _).1 (hI.at_ 1 rfl : _ ∧ _).2).mono ?_; clear HDP; rintro e w5 ⟨rfl, hb5⟩; have hJ5 := (hI.call hb5).new (l := appZ) appZ.toArray 31 (g := w5.heap.size) rfl rfl; have hap5 := apart5 (A := A) (n := n) (b := b) (B := B) (A1 := A1) (n1 := n1) (B1 := w1.heap.size) (bs := bs) (gr := gr) (t1 := 22) (t2 := 31) (w := w) (x := appC x) (r := [.slice A n c, .slice A1 n1 c1]) (hI.call hb5))
          | (refine wl_store_at hJ5 0 rfl 31 (.tmp 11) (.tmp 58) rfl w5.heap.size _ _ (appC y) rfl rfl rfl (by rw [HYL.out]; rfl) (by rw [HYL.out]; kernel_rfl) HYO.out hap5 ?_; intro w6 hJ6 hs6))
        simp only [List.set_cons_zero] at hJ6
        clear hI hJ5 hap5 hs6 r0 r1
        obtain ⟨g11, hg11⟩ : ∃ g, g = w5.heap.size := ⟨_, rfl⟩
        rw [← hg11] at hJ6 ⊢
        clear hg11
        have hg6 := Cells.lt (hJ6.at_ 0 rfl)
        go_upto_region 12 with (first
          | (go_at_call 13; refine (HDR.out _ (HM.out _ (hJ6.at_ 5 rfl : _ ∧ _).1) (hJ6.at_ 2 rfl : _ ∧ _).1 (hJ6.at_ 2 rfl : _ ∧ _).2).mono ?_; clear HDR; rintro e w7 ⟨rfl, hb7⟩; have hJ7 := (hJ6.call hb7).new (l := appZ) appZ.toArray 31 (g := w7.heap.size) rfl rfl; have hap7 : Apart (some w7.heap.size) (.cells g11 31 (appC y) :: [.cells gr 22 [.slice A n c, .slice A1 n1 c1], .low (.rd w1.heap.size 1 A1 n1 (bs.map bv)), .cells w.heap.size 31 (appC x), .low (.rd B 1 A n (b.map bv)), .kept w w.heap.size]) := ⟨apart1 (hJ6.call hb7), apart5 (hJ6.call hb7).2⟩)
          | (refine wl_store_at hJ7 0 rfl 31 (.tmp 13) (.tmp 63) rfl w7.heap.size _ _ (appC y) rfl rfl rfl (by rw [HYL.out]; rfl) (by rw [HYL.out]; kernel_rfl) HYO.out hap7 ?_; intro w8 hJ8 hs8))
        simp only [List.set_cons_zero] at hJ8
        clear hJ6 hJ7 hap7 hs8
        obtain ⟨g13, hg13⟩ : ∃ g, g = w7.heap.size := ⟨_, rfl⟩
        rw [← hg13] at hJ8 ⊢
        clear hg13 hg6
        have hI9 : All w8 [.cells gr 22 [.slice A n c, .slice A1 n1 c1], .low (.rd w1.heap.size 1 A1 n1 (bs.map bv)), .cells w.heap.size 31 (appC x), .low (.rd B 1 A n (b.map bv)), .kept w w.heap.size] := hJ8.2.2
        go_wp2_with (first
          | (refine wl_load_any rfl 31 (.tmp 11) rfl ⟨g11, 0, none⟩ rfl (appC y) _ (cell_all (hJ8.at_ 1 rfl)) Tryd.underlying31 rfl (by rw [HYL.out]; kernel_rfl) ?_)
          | (refine wl_load_any rfl 31 (.tmp 13) rfl ⟨g13, 0, none⟩ rfl (appC y) _ (cell_all (hJ8.at_ 0 rfl)) Tryd.underlying31 rfl (by rw [HYL.out]; kernel_rfl) ?_))
        exact ⟨⟨2, by omega, rfl, hI9⟩, by simp [intOf]⟩
      | 2, _ =>
        clear r0 r1
        have HDP := Lib.hid (DecodeApproval_any wr w1.heap.size A1 n1 c1 bs (hI.at_ 1 rfl : _ ∧ _).1 hnc1 hcm1 (hI.at_ 1 rfl : _ ∧ _).2)
        have HYL := Lib.hid (appC_len (appD bs).1 (appD_32 bs))
        have HYO := Lib.hid (appC_one (appD bs).1)
        have HYE : Hid (q = 0 → (appD bs) = (x, 0)) := HBK
        obtain ⟨y, hy⟩ : ∃ y, y = (appD bs).1 := ⟨_, rfl⟩
        obtain ⟨g, hg⟩ : ∃ g, g = (appD bs).2 := ⟨_, rfl⟩
        have HYG : Hid (q = 0 → y = x ∧ g = 0) := Lib.hid (fun h => by rw [hy, hg, HYE.out h]; exact ⟨rfl, rfl⟩)
        rw [← hy, ← hg] at HDP
        rw [← hy] at HYL HYO
        clear hy hg HYE HBK
        go_upto_region 16 with (first
          | (go_at_call 6; refine HDP.out.mono ?_; clear HDP; rintro e w5 ⟨rfl, hb5⟩; have hJ5 := (hI.call hb5).new (l := appZ) appZ.toArray 31 (g := w5.heap.size) rfl rfl; have hap5 := apart5 (A := A) (n := n) (b := b) (B := B) (A1 := A1) (n1 := n1) (B1 := w1.heap.size) (bs := bs) (gr := gr) (t1 := 22) (t2 := 31) (w := w) (x := appC x) (r := [.slice A n c, .slice A1 n1 c1]) (hI.call hb5))
          | (refine wl_store_at hJ5 0 rfl 31 (.tmp 15) (.tmp 77) rfl w5.heap.size _ _ (appC y) rfl rfl rfl (by rw [HYL.out]; rfl) (by rw [HYL.out]; kernel_rfl) HYO.out hap5 ?_; intro w6 hJ6 hs6))
        simp only [List.set_cons_zero] at hJ6
        clear hI hJ5 hap5 hs6
        obtain ⟨g15, hg15⟩ : ∃ g, g = w5.heap.size := ⟨_, rfl⟩
        rw [← hg15] at hJ6 ⊢
        clear hg15
        by_cases q0 : q = 0
        · obtain ⟨rfl, rfl⟩ := HYG.out q0
          have HTX2 := HTX.out q0
          subst q0
          have heq := fun W => eq_app W y HD.out HTX2.1 HTX2.2
          clear HYG HTX
          go_wp2_with (first
            | (go_at_call 9; refine (awake_any _ (HT.out _ (hJ6.at_ 5 rfl : _ ∧ _).1)).mono ?_; rintro e w7 ⟨rfl, hb7⟩; have hJ7 := hJ6.call hb7)
            | (refine wl_met rfl ?_; refine wp_load_any 31 (.tmp 15) rfl ⟨g15, 0, none⟩ rfl (appC y) _ (cell_all (hJ7.at_ 0 rfl)) Tryd.underlying31 rfl (by rw [HL.out]; kernel_rfl) ?_)
            | (refine wl_met rfl ?_; refine wp_load_any 31 (.tmp 2) rfl ⟨w.heap.size, 0, none⟩ rfl (appC y) _ (cell_all (hJ7.at_ 3 rfl)) Tryd.underlying31 rfl (by rw [HL.out]; kernel_rfl) ?_))
          go_ret
          exact ⟨rfl, (hJ7.at_ 5 rfl : _ ∧ _).1⟩
        · have d0 : (q != 0) = true := by simpa using q0
          clear q0
          go_wp2_with (go_at_call 9; refine (awake_any _ (HT.out _ (hJ6.at_ 5 rfl : _ ∧ _).1)).mono ?_; rintro e w7 ⟨rfl, hb7⟩; have hJ7 := hJ6.call hb7)
          go_ret
          exact ⟨rfl, (hJ7.at_ 5 rfl : _ ∧ _).1⟩
end Go.Proofs.YthlfafkakijjfaaDoor


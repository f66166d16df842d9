/- The law RecordEncodes. -/
import Derived.Test.YtoeighacclkplaaDoorRecs
import Derived.Test.YtoeighacclkplaaDoorRecA
import Derived.Test.YtoeighacclkplaaDoorRec3
set_option linter.unusedSimpArgs false
set_option linter.unusedVariables false
set_option maxRecDepth 100000
namespace Go.AdR
open Go Go.RowKit Go.Adm
theorem RecGood.keep {w w' : World} {B : Nat} {r : RecM} (h : RecGood w B r) (hk : ∀ p : Addr, p.block < B → w'.cell? p = w.cell? p) : RecGood w' B r := ⟨h.inn.keep hk, h.ok, h.lo, h.hi⟩
def Low.recs (B : Nat) (A : Option Addr) (n : Nat) (rs : List RecM) : Low := ⟨B, fun w => Els w B 8 A n (rs.map RecM.cells) ∧ ∀ r ∈ rs, RecGood w B r, fun _ _ hk h => ⟨h.1.keep hk, fun r hr => (h.2 r hr).keep hk⟩⟩
end Go.AdR
namespace Go.Proofs.YtoeighacclkplaaDoor
open Go Go.RowKit Go.Adm Go.AdR
noncomputable def rE (x : Rec) : Int := if recB x = true then docE (recLs x) else 1
noncomputable def rBs (x : Rec) : List UInt8 := if recB x = true then (if docE (recLs x) = 0 then encD (recLs x) else []) else []
theorem RecPost.rd {x : Rec} {w : World} {e : Ending} {w' : World} (h : RecPost x w e w') : ∃ A n c, e = .returned (.tuple #[.slice A n c, .int .i64 (rE x)]) ∧ Below w.heap.size w w' ∧ Rd w' w'.heap.size 1 A n ((rBs x).map bv) := by
  obtain ⟨a, b, rfl, hb, h1, h2⟩ := h
  cases hv : recB x with
  | false =>
    obtain ⟨rfl, rfl⟩ := h2 hv
    exact ⟨none, 0, 0, by rw [rE, hv]; rfl, hb, by rw [rBs, hv]; exact Rd.nil⟩
  | true =>
    obtain ⟨A, n, c, rfl, rfl, h3, h4⟩ := h1 hv
    by_cases h0 : docE (recLs x) = 0
    · refine ⟨A, n, c, by rw [rE, hv, if_pos rfl], hb, ?_⟩
      rw [rBs, hv, if_pos rfl, if_pos h0]
      exact (h3 h0).rd
    · obtain ⟨rfl, rfl, rfl⟩ := h4 h0
      refine ⟨none, 0, 0, by rw [rE, hv, if_pos rfl], hb, ?_⟩
      rw [rBs, hv, if_pos rfl, if_neg h0]
      exact Rd.nil
set_option maxHeartbeats 12800000 in
theorem walkRecE (x0 : Rec) (sc0 se0 sm0 sp0 : Sl) (m : Int) (w : World) (B : Nat) (h : RecIn w B x0 sc0 se0 sm0 sp0) (hr : RecRaw x0) (A : Option Addr) (nl cl : Nat) (L : List Int) (hL : Rd w B 1 A nl (L.map iv)) (hB : B ≤ w.heap.size) (hm : w.cell? ⟨1, 0, none⟩ = some (.int .i64 m)) (ht : Lib.TabIs Tryd.prog w "internal/strconv.uint64pow10" .u64 Lib.pow10Tab) :
    Calls Tryd.prog 3 #[.agg (recC x0 sc0 se0 sm0 sp0).toArray, .slice A nl cl] w fun e w' => e = .returned (.bool true) ∧ Below w.heap.size w w' := by
  have hgm : 1 < w.heap.size := World.block_lt_of_cell? w _ hm
  have hR : All w [.low (Go.AdR.Low.recd B x0 sc0 se0 sm0 sp0), .low (.rd B 1 A nl (L.map iv)), .kept w w.heap.size] := ⟨⟨h, hB⟩, ⟨hL, hB⟩, ⟨Below.refl _ _, Nat.le_refl _⟩, trivial⟩
  have HM : Hid (∀ W, Below w.heap.size w W → W.cell? ⟨1, 0, none⟩ = some (.int .i64 m)) := Lib.hid (fun W hb => (hb.cell hgm).trans hm)
  have HT : Hid (∀ W, Below w.heap.size w W → Lib.TabIs Tryd.prog W "internal/strconv.uint64pow10" .u64 Lib.pow10Tab) := Lib.hid (fun W hb => tab_keep ht hb)
  have HCL0 : Hid ((recC x0 sc0 se0 sm0 sp0).length = 8) := Lib.hid rfl
  clear h hB hL hm ht
  have hzr := zero_rec
  go_enter Tryd.func3, Tryd.ntmps3
  go_upto_region 1 with (fail)
  refine wp_gen (hR.new (l := recC x0 sc0 se0 sm0 sp0) _ 26 rfl rfl) ?_
  intro W hW
  clear hR
  have hrecs := records_any W B x0 sc0 se0 sm0 sp0 (hW.at_ 1 rfl : _ ∧ _).1 hr A nl cl L (hW.at_ 2 rfl : _ ∧ _).1 (hW.at_ 1 rfl : _ ∧ _).2
  clear hr
  go_upto_region 2 with (first
    | (refine wl_load_any rfl 26 (.tmp 2) rfl ⟨w.heap.size, 0, none⟩ rfl (recC x0 sc0 se0 sm0 sp0) _ (cell_all (hW.at_ 0 rfl)) Tryd.underlying26 rfl (by rw [HCL0.out]; kernel_rfl) ?_)
    | (go_at_call 4; refine hrecs.mono ?_; clear hrecs; rintro e w2 ⟨AR, nR, cR, rs, rfl, hn3, hlen, hels, hgood, hb2⟩; have hk2 := (hW.at_ 3 rfl : _ ∧ w.heap.size ≤ W.heap.size); have hI0 : All w2 [.low (Go.AdR.Low.recs w2.heap.size AR nR rs), .kept w w.heap.size] := ⟨⟨⟨hels, hgood⟩, Nat.le_refl _⟩, ⟨hk2.1.trans (hb2.mono hk2.2), Nat.le_trans hk2.2 hb2.size⟩, trivial⟩; clear hels hgood hW hk2 hb2))
  obtain ⟨B2, hB2⟩ : ∃ b, b = w2.heap.size := ⟨_, rfl⟩
  rw [← hB2] at hI0
  have HLN := Lib.hid hlen
  clear hB2 hlen
  go_loopw [15] (fun i wr => ∃ k : Nat, k ≤ nR ∧ i = .int .i64 k ∧ All wr [.low (Go.AdR.Low.recs B2 AR nR rs), .kept w w.heap.size]) (fun i _ => nR - (intOf i).toNat)
  case atStart => exact ⟨0, by omega, rfl, hI0⟩
  case round =>
    clear hI0
    obtain ⟨k, hk, rfl, hI⟩ := hrel
    by_cases hlt : k < nR
    · have hkl : k < rs.length := by rw [HLN.out]; exact hlt
      obtain ⟨ad, hA', hadB, hc⟩ := Els.at_ (hI.at_ 0 rfl : (Els wr B2 8 AR nR (rs.map RecM.cells) ∧ _) ∧ _).1.1 (k := k) (by rw [List.length_map]; exact hkl)
      subst hA'
      rw [List.getElem_map] at hc
      have HG : Hid (∀ W, All W [.low (Go.AdR.Low.recs B2 (some ad) nR rs), .kept w w.heap.size] → RecGood W B2 rs[k]) := Lib.hid (fun W hW => (hW.at_ 0 rfl : (_ ∧ ∀ r ∈ rs, RecGood W B2 r) ∧ _).1.2 _ (List.getElem_mem hkl))
      have HC := Lib.hid hc
      clear hc
      generalize rs[k] = r at *
      obtain ⟨x, sc, se, sm, sp⟩ := r
      change Hid (∀ j u, (recC x sc se sm sp)[j]? = some u → wr.cell? ((ad.add (k * 8)).add j) = some u) at HC
      have HCL : Hid ((recC x sc se sm sp).length = 8) := Lib.hid rfl
      have d1 : decide ((k : Int) < (nR : Int)) = true := by simp; omega
      have wk1 : (0 : Int) ≤ (k : Int) := by omega
      have wk2 : (k : Int) < (nR : Int) := by omega
      have wk3 : ((k : Int)).toNat = k := by omega
      have hBw : B2 ≤ wr.heap.size := (hI.at_ 0 rfl : _ ∧ _).2
      have hkw := (hI.at_ 1 rfl : _ ∧ w.heap.size ≤ wr.heap.size).2
      go_upto_region 4 with (first
        | (refine wl_load_any rfl 26 (.tmp 17) rfl (ad.add (k * 8)) rfl (recC x sc se sm sp) _ HC.out Tryd.underlying26 rfl (by rw [HCL.out]; kernel_rfl) ?_)
        | (refine wl_store_at (hI.new (l := recZ) recZ.toArray 26 rfl rfl) 0 rfl 26 (.tmp 6) (.tmp 18) rfl wr.heap.size _ recZ (recC x sc se sm sp) rfl rfl rfl rfl (by rw [HCL.out]; kernel_rfl) (recC_one _ _ _ _ _) ⟨fun g e => (by injection e with e; subst e; show B2 ≤ _; omega), fun g e => by injection e with e; omega, trivial⟩ ?_; intro W3 hW3 hs3))
      simp only [List.set_cons_zero] at hW3
      obtain ⟨gx, hgx⟩ : ∃ g, g = wr.heap.size := ⟨_, rfl⟩
      rw [← hgx] at hW3 ⊢
      clear hI hgx d1 HC hs3 hBw hkw
      have hg3 := HG.out W3 hW3.2
      have hE1 := recEncode_any W3 B2 x sc se sm sp hg3.inn hg3.ok (hW3.at_ 1 rfl : _ ∧ B2 ≤ W3.heap.size).2 hg3.lo hg3.hi m (HM.out W3 (hW3.at_ 2 rfl : _ ∧ _).1) (HT.out W3 (hW3.at_ 2 rfl : _ ∧ _).1)
      go_upto_region 5 with (first
        | (refine wl_load_any rfl 26 (.tmp 6) rfl ⟨gx, 0, none⟩ rfl (recC x sc se sm sp) _ (cell_all (hW3.at_ 0 rfl)) Tryd.underlying26 rfl (by rw [HCL.out]; kernel_rfl) ?_)
        | (go_at_call 5; refine hE1.mono ?_; clear hE1; intro e w4 hE4; obtain ⟨A1, n1, c1, rfl, hb4, hrd1⟩ := RecPost.rd hE4; clear hE4; have hW4 := (hW3.call hb4).cons (r := .low (.rd w4.heap.size 1 A1 n1 ((rBs x).map bv))) ⟨hrd1, Nat.le_refl _⟩; clear hrd1 hb4 hW3 hg3))
      have hg4 := HG.out w4 hW4.2.2
      have hE2 := rrEncode_any w4 B2 x sc se sm sp hg4.inn hg4.ok (hW4.at_ 2 rfl : _ ∧ B2 ≤ w4.heap.size).2 hg4.lo hg4.hi m (HM.out w4 (hW4.at_ 3 rfl : _ ∧ _).1)
      go_upto_region 6 with (first
        | (refine wl_load_any rfl 26 (.tmp 6) rfl ⟨gx, 0, none⟩ rfl (recC x sc se sm sp) _ (cell_all (hW4.at_ 1 rfl)) Tryd.underlying26 rfl (by rw [HCL.out]; kernel_rfl) ?_)
        | (go_at_call 6; refine hE2.mono ?_; clear hE2; intro e w5 hE5; obtain ⟨A2, n2, c2, rfl, hb5, hrd2⟩ := RecPost.rd hE5; clear hE5; have hI5 := (hW4.call hb5).cons (r := .low (.rd w5.heap.size 1 A2 n2 ((rBs x).map bv))) ⟨hrd2, Nat.le_refl _⟩; clear hrd2 hb5 hW4 hg4))
      have HV1 : Hid (∀ W, All W [.low (.rd w5.heap.size 1 A2 n2 ((rBs x).map bv)), .low (.rd w4.heap.size 1 A1 n1 ((rBs x).map bv)), .cells gx 26 (recC x sc se sm sp), .low (Go.AdR.Low.recs B2 (some ad) nR rs), .kept w w.heap.size] → Calls Tryd.prog 7 #[.agg (recC x sc se sm sp).toArray] W fun e w' => e = .returned (.bool (recB x)) ∧ Below W.heap.size W w') := Lib.hid (fun W hW => recValid_any W B2 x sc se sm sp (HG.out W hW.2.2.2).inn (HG.out W hW.2.2.2).ok (hW.at_ 3 rfl : _ ∧ B2 ≤ W.heap.size).2 m (HM.out W (hW.at_ 4 rfl : _ ∧ _).1))
      have HV2 : Hid (∀ W, All W [.low (.rd w5.heap.size 1 A2 n2 ((rBs x).map bv)), .low (.rd w4.heap.size 1 A1 n1 ((rBs x).map bv)), .cells gx 26 (recC x sc se sm sp), .low (Go.AdR.Low.recs B2 (some ad) nR rs), .kept w w.heap.size] → Calls Tryd.prog 8 #[.agg (recC x sc se sm sp).toArray] W fun e w' => e = .returned (.bool (recB x)) ∧ Below W.heap.size W w') := Lib.hid (fun W hW => rrValid_any W B2 x sc se sm sp (HG.out W hW.2.2.2).inn (HG.out W hW.2.2.2).ok (hW.at_ 3 rfl : _ ∧ B2 ≤ W.heap.size).2 m (HM.out W (hW.at_ 4 rfl : _ ∧ _).1))
      obtain ⟨bs, hbs⟩ : ∃ b, b = rBs x := ⟨_, rfl⟩
      obtain ⟨q, hq⟩ : ∃ q, q = rE x := ⟨_, rfl⟩
      obtain ⟨v, hv⟩ : ∃ v, v = recB x := ⟨_, rfl⟩
      rw [← hbs] at hI5 HV1 HV2
      rw [← hv] at HV1 HV2
      simp only [← hq]
      clear hbs hq hv
      refine wp_region_hops 16 [29, 30, 31, 32, 33, 34, 35, 36, 37, 38, 39, 40, 41, 42, 43, 44] [.low (.rd w5.heap.size 1 A2 n2 (bs.map bv)), .low (.rd w4.heap.size 1 A1 n1 (bs.map bv)), .cells gx 26 (recC x sc se sm sp), .low (Go.AdR.Low.recs B2 (some ad) nR rs), .kept w w.heap.size]
        [.eq (.agg (recC x sc se sm sp).toArray), .eq (.bool v), .eq (.agg (recC x sc se sm sp).toArray), .eq (.bool v), .eq (.bool false), .eq (.bool false), .eq (.int .i64 q), .eq (.int .i64 q), .eq (.bool false), .eq (.bool false), .eq (.bool false), .eq (.slice A1 n1 c1), .eq (.string ⟨bs.toArray⟩), .eq (.slice A2 n2 c2), .eq (.string ⟨bs.toArray⟩), .eq (.bool false)]
        (by kernel_rfl) (by kernel_rfl) hI5 rfl ?hops ?fin
      case hops =>
        refine ⟨?_, ?_, ?_, ?_, ?_, ?_, ?_, ?_, ?_, ?_, ?_, ?_, ?_, ?_, ?_, ?_, trivial⟩
        · intro a' W hW hb hd K hK
          have b6 := hb 6 rfl
          refine wp_load_any 26 (.tmp 6) rfl ⟨gx, 0, none⟩ (show a'.eval (.tmp 6) = _ from by simp only [Act.eval, Array.getD_eq_getD_getElem?]; exact b6) (recC x sc se sm sp) _ (cell_all (hW.at_ 2 rfl)) Tryd.underlying26 rfl (by rw [HCL.out]; kernel_rfl) ?_
          exact hK _ _ (World.grownBy.refl _ _) rfl
        · intro a' W hW hb hd K hK
          have b29 : a'.tmps[29]?.getD undef = _ := hd ⟨0, .data⟩ (by simp) rfl
          go_simp
          refine (HV1.out W hW).mono ?_
          rintro e w' ⟨rfl, hb'⟩
          exact hK _ _ (grown_of_below hb') rfl
        · intro a' W hW hb hd K hK
          have b6 := hb 6 rfl
          refine wp_load_any 26 (.tmp 6) rfl ⟨gx, 0, none⟩ (show a'.eval (.tmp 6) = _ from by simp only [Act.eval, Array.getD_eq_getD_getElem?]; exact b6) (recC x sc se sm sp) _ (cell_all (hW.at_ 2 rfl)) Tryd.underlying26 rfl (by rw [HCL.out]; kernel_rfl) ?_
          exact hK _ _ (World.grownBy.refl _ _) rfl
        · intro a' W hW hb hd K hK
          have b31 : a'.tmps[31]?.getD undef = _ := hd ⟨2, .data⟩ (by simp) rfl
          go_simp
          refine (HV2.out W hW).mono ?_
          rintro e w' ⟨rfl, hb'⟩
          exact hK _ _ (grown_of_below hb') rfl
        · intro a' W hW hb hd K hK
          have b30 : a'.tmps[30]?.getD undef = _ := hd ⟨1, .data⟩ (by simp) rfl
          have b32 : a'.tmps[32]?.getD undef = _ := hd ⟨3, .data⟩ (by simp) rfl
          go_simp
          exact hK _ _ (World.grownBy.refl _ _) rfl
        · intro a' W hW hb hd K hK
          have b33 : a'.tmps[33]?.getD undef = _ := hd ⟨4, .data⟩ (by simp) rfl
          go_simp
          exact hK _ _ (World.grownBy.refl _ _) rfl
        · refine Or.inl ⟨fun v w h => h, ?_⟩
          intro a' W hW hb hd K hK
          have b8 := hb 8 rfl
          go_simp
          exact hK _ _ (World.grownBy.refl _ _) rfl
        · refine Or.inl ⟨fun v w h => h, ?_⟩
          intro a' W hW hb hd K hK
          have b10 := hb 10 rfl
          go_simp
          exact hK _ _ (World.grownBy.refl _ _) rfl
        · refine Or.inl ⟨fun v w h => h, ?_⟩
          intro a' W hW hb hd K hK
          have b35 : a'.tmps[35]?.getD undef = _ := hd ⟨6, .data⟩ (by simp) rfl
          have b36 : a'.tmps[36]?.getD undef = _ := hd ⟨7, .data⟩ (by simp) rfl
          go_simp
          exact hK _ _ (World.grownBy.refl _ _) rfl
        · intro a' W hW hb hd K hK
          have b34 : a'.tmps[34]?.getD undef = _ := hd ⟨5, .data⟩ (by simp) rfl
          have b37 : a'.tmps[37]?.getD undef = _ := hd ⟨8, .data⟩ (by simp) rfl
          go_simp
          exact hK _ _ (World.grownBy.refl _ _) rfl
        · intro a' W hW hb hd K hK
          have b38 : a'.tmps[38]?.getD undef = _ := hd ⟨9, .data⟩ (by simp) rfl
          go_simp
          exact hK _ _ (World.grownBy.refl _ _) rfl
        · refine Or.inl ⟨fun v w h => h, ?_⟩
          intro a' W hW hb hd K hK
          have b7 := hb 7 rfl
          go_simp
          exact hK _ _ (World.grownBy.refl _ _) rfl
        · refine Or.inl ⟨fun v w h => h, ?_⟩
          intro a' W hW hb hd K hK
          have b40 : a'.tmps[40]?.getD undef = _ := hd ⟨11, .data⟩ (by simp) rfl
          have hcv := run_conv (P := Tryd.prog) W 30 9 5 Tryd.underlying30 Tryd.underlying5 Tryd.underlying9 (c := c1) (hW.at_ 1 rfl : _ ∧ _).1
          go_simp
          exact hK _ _ (World.grownBy.refl _ _) rfl
        · refine Or.inl ⟨fun v w h => h, ?_⟩
          intro a' W hW hb hd K hK
          have b9 := hb 9 rfl
          go_simp
          exact hK _ _ (World.grownBy.refl _ _) rfl
        · refine Or.inl ⟨fun v w h => h, ?_⟩
          intro a' W hW hb hd K hK
          have b42 : a'.tmps[42]?.getD undef = _ := hd ⟨13, .data⟩ (by simp) rfl
          have hcv := run_conv (P := Tryd.prog) W 30 9 5 Tryd.underlying30 Tryd.underlying5 Tryd.underlying9 (c := c2) (hW.at_ 0 rfl : _ ∧ _).1
          go_simp
          exact hK _ _ (World.grownBy.refl _ _) rfl
        · refine Or.inl ⟨fun v w h => h, ?_⟩
          intro a' W hW hb hd K hK
          have b41 : a'.tmps[41]?.getD undef = _ := hd ⟨12, .data⟩ (by simp) rfl
          have b43 : a'.tmps[43]?.getD undef = _ := hd ⟨14, .data⟩ (by simp) rfl
          go_simp
          exact hK _ _ (World.grownBy.refl _ _) rfl
      case fin =>
        intro vs V hV hv
        have e39 : vs 10 = .bool false := hv 10 (by decide)
        have e44 : vs 15 = .bool false := hv 15 (by decide)
        clear hv hI5 HV1 HV2
        simp only [putAll, Nat.zero_add, Nat.reduceAdd, List.drop_succ_cons, List.drop_zero, e39, e44, Act.put, List.setIfInBounds_toArray, List.set_cons_succ, List.set_cons_zero]
        clear e39 e44
        have wk4 : IntKind.i64.wrap ((k : Int) + 1) = ((k + 1 : Nat) : Int) := by rw [IntWalk.i64_in _ (by omega)]; omega
        have hV5 := hV.2.2.2
        clear hV
        go_wp2_with fail
        exact ⟨⟨k + 1, by omega, rfl, hV5⟩, by simp [intOf]; omega⟩
    · obtain rfl : k = nR := by omega
      have d1 : decide ((k : Int) < (k : Int)) = false := by simp
      have hk9 := (hI.at_ 1 rfl : _ ∧ w.heap.size ≤ wr.heap.size)
      have haw := awake_any m wr (HM.out wr hk9.1) (Nat.lt_of_lt_of_le hgm hk9.2) (HT.out wr hk9.1)
      go_wp2_with (go_at_call 9; refine haw.mono ?_; clear haw; rintro e w9 ⟨rfl, hb9⟩)
      go_ret
      exact ⟨rfl, hk9.1.trans (hb9.mono hk9.2)⟩
end Go.Proofs.YtoeighacclkplaaDoor

/- The law RecordBack. -/
import Derived.Test.YtjdinakdkdjocaaGreatDoorRdC
import Derived.Test.YtjdinakdkdjocaaGreatDoorRdSB
import Derived.Test.YtjdinakdkdjocaaGreatDoorRecs
import Derived.Test.YtjdinakdkdjocaaGreatDoorRec3
set_option linter.unusedSimpArgs false
set_option linter.unusedVariables false
set_option maxRecDepth 100000
namespace Go.AdR
open Go Go.RowKit Go.Adm
theorem RecGood.keep {w w' : World} {B : Nat} {r : RecM} (h : RecGood w B r) (hk : ∀ p : Addr, p.block < B → w'.cell? p = w.cell? p) : RecGood w' B r := ⟨h.inn.keep hk, h.ok, h.lo, h.hi⟩
def Low.recs (B : Nat) (A : Option Addr) (n : Nat) (rs : List RecM) : Low := ⟨B, fun w => Els w B 8 A n (rs.map RecM.cells) ∧ ∀ r ∈ rs, RecGood w B r, fun _ _ hk h => ⟨h.1.keep hk, fun r hr => (h.2 r hr).keep hk⟩⟩
end Go.AdR
namespace Go.Proofs.YtjdinakdkdjocaaGreatDoor
open Go Go.RowKit Go.Adm Go.AdR
noncomputable def rE (x : Rec) : Int := if recB x = true then docE (recLs x) else 1
theorem rE_zero {x : Rec} (h : rE x = 0) : recB x = true ∧ docE (recLs x) = 0 := by
  unfold rE at h
  split at h
  · rename_i h2; exact ⟨h2, h⟩
  · cases h
theorem RecPost.bad {x : Rec} {w : World} {e : Ending} {w' : World} (h : RecPost x w e w') (h0 : rE x ≠ 0) : ∃ v, e = .returned (.tuple #[v, .int .i64 (rE x)]) ∧ Below w.heap.size w w' := by
  obtain ⟨a, b, rfl, hbl, h1, h2⟩ := h
  cases hb : recB x with
  | true =>
    obtain ⟨A, n, c, rfl, rfl, -, -⟩ := h1 hb
    exact ⟨_, by unfold rE; rw [if_pos hb], hbl⟩
  | false =>
    obtain ⟨rfl, rfl⟩ := h2 hb
    exact ⟨_, by unfold rE; rw [if_neg (by rw [hb]; decide)], hbl⟩
theorem rec_lens {x : Rec} (h : docE (recLs x) = 0) : x.mat.length ≤ 400000 ∧ x.prod.length ≤ 400000 := by
  have hc := (docE_zero h).1
  unfold recLs entLs at hc
  simp only [List.length_append, List.length_cons, List.length_nil, List.length_map] at hc
  exact ⟨by omega, by omega⟩
theorem res_back {x : Rec} (hb : recB x = true) (hd : docE (recLs x) = 0) (hm : ∀ e ∈ x.mat, E32 e) (hp : ∀ e ∈ x.prod, E32 e) : recRes (encD (recLs x)) = (x, 0) := by
  obtain ⟨h1, h2, h3⟩ := docE_zero hd
  have hr := decR_ok h3 (decO_doc h2) h1
  rw [recRes_some (x := x) (by rw [hr]) (by rw [hr]; exact recParse_enc hb hm hp), if_pos hb]
theorem res_forth {b : List UInt8} (h : (recRes b).2 = 0) : recB (recRes b).1 = true ∧ docE (recLs (recRes b).1) = 0 ∧ encD (recLs (recRes b).1) = b ∧ -9223372036854775808 ≤ (recRes b).1.t ∧ (recRes b).1.t ≤ 9223372036854775807 := by
  by_cases h0 : (decR b).2 = 0
  · cases hp : recParse (decR b).1 with
    | none => rw [recRes_none h0 hp] at h; cases h
    | some x =>
      rw [recRes_some h0 hp] at h ⊢
      cases hb : recB x with
      | false => rw [hb] at h; cases h
      | true =>
        rw [if_pos rfl]
        have hz := decR_zero h0 rfl
        have ht := (parsed_ok hp).2
        rw [← recParse_ls hp] at hz
        exact ⟨hb, hz.1, hz.2, by show _ ≤ x.t; omega, by show x.t ≤ _; omega⟩
  · rw [recRes_err h0] at h; exact absurd h h0
set_option maxHeartbeats 12800000 in
theorem walkRecB (x0 : Rec) (sc0 se0 sm0 sp0 : Sl) (m : Int) (w : World) (B : Nat) (h : RecIn w B x0 sc0 se0 sm0 sp0) (hr : RecRaw x0) (A : Option Addr) (n c : Nat) (b : List UInt8) (hb : Rd w B 1 A n (b.map bv)) (hnc : n ≤ c) (hcm : c ≤ maxLen) (At : Option Addr) (nl cl : Nat) (L : List Int) (hL : Rd w B 1 At nl (L.map iv)) (hB : B ≤ w.heap.size) (hm : w.cell? ⟨0, 0, none⟩ = some (.int .i64 m)) (ht : Lib.TabIs Tryz.prog w "internal/strconv.uint64pow10" .u64 Lib.pow10Tab) :
    Calls Tryz.prog 4 #[.agg (recC x0 sc0 se0 sm0 sp0).toArray, .slice A n c, .slice At nl cl] w fun e w' => e = .returned (.bool true) ∧ Below w.heap.size w w' := by
  have hgm : 0 < w.heap.size := World.block_lt_of_cell? w _ hm
  have hR : All w [.low (Go.AdR.Low.recd B x0 sc0 se0 sm0 sp0), .low (.rd B 1 At nl (L.map iv)), .low (.rd B 1 A n (b.map bv)), .kept w w.heap.size] := ⟨⟨h, hB⟩, ⟨hL, hB⟩, ⟨hb, hB⟩, ⟨Below.refl _ _, Nat.le_refl _⟩, trivial⟩
  have HM : Hid (∀ W, Below w.heap.size w W → W.cell? ⟨0, 0, none⟩ = some (.int .i64 m)) := Lib.hid (fun W hb => (hb.cell hgm).trans hm)
  have HT : Hid (∀ W, Below w.heap.size w W → Lib.TabIs Tryz.prog W "internal/strconv.uint64pow10" .u64 Lib.pow10Tab) := Lib.hid (fun W hb => tab_keep ht hb)
  have HCL0 : Hid ((recC x0 sc0 se0 sm0 sp0).length = 8) := Lib.hid rfl
  have HGM := Lib.hid hgm
  have HNC := Lib.hid hnc
  have HCM := Lib.hid hcm
  clear h hB hL hm ht hb hgm hnc hcm
  have hzr := zero_rec
  by_cases hn : 100000 < n
  · have d1 : decide ((100000 : Int) < (n : Int)) = true := by simp; omega
    clear hr
    go_enter Tryz.func4, Tryz.ntmps4
    go_wp2_with fail
    go_ret
    exact ⟨rfl, (hR.alloc _).2.2.2.1.1⟩
  · have d1 : decide ((100000 : Int) < (n : Int)) = false := by simp; omega
    go_enter Tryz.func4, Tryz.ntmps4
    go_upto_region 1 with (fail)
    refine wp_gen (hR.new (l := recC x0 sc0 se0 sm0 sp0) _ 31 rfl rfl) ?_
    intro W hW
    clear hR
    have hrecs := records_any W B x0 sc0 se0 sm0 sp0 (hW.at_ 1 rfl : _ ∧ _).1 hr At nl cl L (hW.at_ 2 rfl : _ ∧ _).1 (hW.at_ 1 rfl : _ ∧ _).2
    clear hr
    go_upto_region 4 with (first
      | (refine wl_load_any rfl 31 (.tmp 3) rfl ⟨w.heap.size, 0, none⟩ rfl (recC x0 sc0 se0 sm0 sp0) _ (cell_all (hW.at_ 0 rfl)) Tryz.underlying31 rfl (by rw [HCL0.out]; kernel_rfl) ?_)
      | (go_at_call 11; refine hrecs.mono ?_; clear hrecs; rintro e w2 ⟨AR, nR, cR, rs, rfl, hn3, hlen, hels, hgood, hb2⟩; have hI1 := hW.call hb2; have hI0 : All w2 [.low (Go.AdR.Low.recs w2.heap.size AR nR rs), .low (.rd B 1 A n (b.map bv)), .kept w w.heap.size] := ⟨⟨⟨hels, hgood⟩, Nat.le_refl _⟩, hI1.at_ 3 rfl, hI1.at_ 4 rfl, trivial⟩; clear hels hgood hW hb2 hI1))
    obtain ⟨B2, hB2⟩ : ∃ b, b = w2.heap.size := ⟨_, rfl⟩
    rw [← hB2] at hI0
    have HLN := Lib.hid hlen
    clear hB2 hlen
    go_loopw [24] (fun i wr => ∃ k : Nat, k ≤ nR ∧ i = .int .i64 k ∧ All wr [.low (Go.AdR.Low.recs B2 AR nR rs), .low (.rd B 1 A n (b.map bv)), .kept w w.heap.size]) (fun i _ => nR - (intOf i).toNat)
    case atStart => exact ⟨0, by omega, rfl, hI0⟩
    case round =>
      clear hI0
      obtain ⟨k, hk, rfl, hI⟩ := hrel
      by_cases hlt : k < nR
      · have hkl : k < rs.length := by rw [HLN.out]; exact hlt
        obtain ⟨ad, hA', hadB, hc⟩ := Els.at_ (hI.at_ 0 rfl : (Els wr B2 8 AR nR (rs.map RecM.cells) ∧ _) ∧ _).1.1 (k := k) (by rw [List.length_map]; exact hkl)
        subst hA'
        rw [List.getElem_map] at hc
        have HG : Hid (∀ W, All W [.low (Go.AdR.Low.recs B2 (some ad) nR rs), .low (.rd B 1 A n (b.map bv)), .kept w w.heap.size] → RecGood W B2 rs[k]) := Lib.hid (fun W hW => (hW.at_ 0 rfl : (_ ∧ ∀ r ∈ rs, RecGood W B2 r) ∧ _).1.2 _ (List.getElem_mem hkl))
        have HC := Lib.hid hc
        clear hc
        generalize rs[k] = r at *
        obtain ⟨x, sc, se, sm, sp⟩ := r
        change Hid (∀ j u, (recC x sc se sm sp)[j]? = some u → wr.cell? ((ad.add (k * 8)).add j) = some u) at HC
        have HCL : Hid ((recC x sc se sm sp).length = 8) := Lib.hid rfl
        have d1 : decide ((k : Int) < (nR : Int)) = true := by simp; omega
        have wk1 : (0 : Int) ≤ (k : Int) := by omega
        have wk2 : (k : Int) < (nR : Int) := by omega
        have wk3 : ((k : Int)).toNat = k := by omega
        have wk4 : IntKind.i64.wrap ((k : Int) + 1) = ((k + 1 : Nat) : Int) := by rw [IntWalk.i64_in _ (by omega)]; omega
        have hBw : B2 ≤ wr.heap.size := (hI.at_ 0 rfl : _ ∧ _).2
        have hBb : B ≤ wr.heap.size := (hI.at_ 1 rfl : _ ∧ _).2
        have hkw := (hI.at_ 2 rfl : _ ∧ w.heap.size ≤ wr.heap.size).2
        go_upto_region 6 with (first
          | (refine wl_load_any rfl 31 (.tmp 26) rfl (ad.add (k * 8)) rfl (recC x sc se sm sp) _ HC.out Tryz.underlying31 rfl (by rw [HCL.out]; kernel_rfl) ?_)
          | (refine wl_store_at (hI.new (l := recZ) recZ.toArray 31 rfl rfl) 0 rfl 31 (.tmp 8) (.tmp 27) rfl wr.heap.size _ recZ (recC x sc se sm sp) rfl rfl rfl rfl (by rw [HCL.out]; kernel_rfl) (recC_one _ _ _ _ _) ⟨fun g e => (by injection e with e; subst e; show B2 ≤ _; omega), fun g e => (by injection e with e; subst e; show B ≤ _; omega), fun g e => by injection e with e; omega, trivial⟩ ?_; intro W3 hW3 hs3))
        simp only [List.set_cons_zero] at hW3
        obtain ⟨gx, hgx⟩ : ∃ g, g = wr.heap.size := ⟨_, rfl⟩
        rw [← hgx] at hW3 ⊢
        clear hI hgx d1 HC hs3 hBw hBb hkw
        have hg3 := HG.out W3 hW3.2
        have HOK := Lib.hid hg3.ok
        have hE1 := recEncode_any W3 B2 x sc se sm sp hg3.inn hg3.ok (hW3.at_ 1 rfl : _ ∧ B2 ≤ W3.heap.size).2 hg3.lo hg3.hi m (HM.out W3 (hW3.at_ 3 rfl : _ ∧ _).1) (HT.out W3 (hW3.at_ 3 rfl : _ ∧ _).1)
        clear hg3
        by_cases he : rE x = 0
        · obtain ⟨h1, h2⟩ := rE_zero he
          obtain ⟨hl1, hl2⟩ := rec_lens h2
          have HL1 := Lib.hid hl1
          have HL2 := Lib.hid hl2
          have hres := res_back h1 h2 HOK.out.mat HOK.out.prod
          replace hE1 := hE1.mono fun e w' h => RecPost.full h h1 h2
          clear he h1 h2 hl1 hl2
          generalize encD (recLs x) = bs at *
          have HRS := Lib.hid hres
          clear hres
          go_upto_region 8 with (first
            | (refine wl_load_any rfl 31 (.tmp 8) rfl ⟨gx, 0, none⟩ rfl (recC x sc se sm sp) _ (cell_all (hW3.at_ 0 rfl)) Tryz.underlying31 rfl (by rw [HCL.out]; kernel_rfl) ?_)
            | (go_at_call 12; refine hE1.mono ?_; clear hE1; rintro e w4 ⟨A1, n1, c1, rfl, hb4, hO4⟩; have hcap4 := hO4.cap; have hW4 := (hW3.call hb4).cons (r := .low (.rd w4.heap.size 1 A1 n1 (bs.map bv))) ⟨hO4.rd, Nat.le_refl _⟩; clear hO4 hb4 hW3))
          have hD := recDecode_any w4 m (HM.out w4 (hW4.at_ 4 rfl : _ ∧ _).1) w4.heap.size A1 n1 c1 bs (hW4.at_ 0 rfl : _ ∧ _).1 hcap4.1 hcap4.2 (Nat.le_refl _)
          unfold RdPost at hD
          rw [HRS.out] at hD
          have hgx4 := Cells.lt (hW4.at_ 1 rfl)
          clear HRS
          go_upto_region 9 with (first
            | (go_at_call 7; refine hD.mono ?_; clear hD; rintro e w5 ⟨sc', se', sm', sp', rfl, hin, hb5⟩; have hs45 := hb5.size; have hW5 := (hW4.call hb5).2.cons (r := .low (Go.AdR.Low.recd w5.heap.size x sc' se' sm' sp')) ⟨hin, Nat.le_refl _⟩; clear hin hb5 hW4)
            | (refine wl_store_at (hW5.new (l := recZ) recZ.toArray 31 rfl rfl) 0 rfl 31 (.tmp 11) (.tmp 38) rfl w5.heap.size _ recZ (recC x sc' se' sm' sp') rfl rfl rfl rfl (by kernel_rfl) (recC_one _ _ _ _ _) ⟨fun g e => (by injection e with e; subst e; exact Nat.le_refl _), fun e => (by injection e with e; omega), fun g e => (by have := (hW5.at_ 2 rfl : _ ∧ B2 ≤ w5.heap.size).2; injection e with e; subst e; exact this), fun g e => (by have := (hW5.at_ 3 rfl : _ ∧ B ≤ w5.heap.size).2; injection e with e; subst e; exact this), fun g e => (by have := (hW5.at_ 4 rfl : _ ∧ w.heap.size ≤ w5.heap.size).2; injection e with e; subst e; exact this), trivial⟩ ?_; intro w6 hW6 hs6))
          simp only [List.set_cons_zero] at hW6
          obtain ⟨gy, hgy⟩ : ∃ g, g = w5.heap.size := ⟨_, rfl⟩
          rw [← hgy] at hW6 ⊢
          clear hW5 hgy hs6 hgx4
          have hsame := rSame_true w6 w6.heap.size x sc se sm sp sc' se' sm' sp' (RecIn.mono (HG.out w6 hW6.2.2.2).inn (hW6.at_ 3 rfl : _ ∧ B2 ≤ w6.heap.size).2) (RecIn.mono (hW6.at_ 1 rfl : _ ∧ _).1 (hW6.at_ 1 rfl : _ ∧ gy ≤ w6.heap.size).2) HOK.out HL1.out HL2.out (Nat.le_refl _)
          go_upto_region 11 with (first
            | (refine wl_met rfl ?_; refine wp_load_any 31 (.tmp 8) rfl ⟨gx, 0, none⟩ rfl (recC x sc se sm sp) _ (cell_all (hW6.at_ 2 rfl)) Tryz.underlying31 rfl (by kernel_rfl) ?_)
            | (refine wl_met rfl ?_; refine wp_load_any 31 (.tmp 11) rfl ⟨gy, 0, none⟩ rfl (recC x sc' se' sm' sp') _ (cell_all (hW6.at_ 0 rfl)) Tryz.underlying31 rfl (by kernel_rfl) ?_)
            | (go_at_call 9; refine hsame.mono ?_; clear hsame; rintro e w7 ⟨rfl, hb7⟩; have hW7 := hW6.call hb7))
          have hW8 : All w7 [.low (Go.AdR.Low.recs B2 (some ad) nR rs), .low (.rd B 1 A n (b.map bv)), .kept w w.heap.size] := hW7.2.2.2
          clear hW7 hW6 hb7
          go_wp2_with fail
          exact ⟨⟨k + 1, by omega, by first | rfl | go_num, hW8⟩, by simp [intOf]; omega⟩
        · replace hE1 := hE1.mono fun e w' h => RecPost.bad h he
          have dq : (rE x != 0) = true := by simpa using he
          clear he
          generalize rE x = q at *
          go_upto_region 11 with (first
            | (refine wl_load_any rfl 31 (.tmp 8) rfl ⟨gx, 0, none⟩ rfl (recC x sc se sm sp) _ (cell_all (hW3.at_ 0 rfl)) Tryz.underlying31 rfl (by rw [HCL.out]; kernel_rfl) ?_)
            | (go_at_call 12; refine hE1.mono ?_; clear hE1; rintro e w4 ⟨v4, rfl, hb4⟩; have hW4 := hW3.call hb4; clear hb4 hW3))
          have hW8 : All w4 [.low (Go.AdR.Low.recs B2 (some ad) nR rs), .low (.rd B 1 A n (b.map bv)), .kept w w.heap.size] := hW4.2
          clear hW4
          go_wp2_with fail
          exact ⟨⟨k + 1, by omega, by first | rfl | go_num, hW8⟩, by simp [intOf]; omega⟩
      · obtain rfl : k = nR := by omega
        have d1 : decide ((k : Int) < (k : Int)) = false := by simp
        have hJ : All wr [.low (.rd B 1 A n (b.map bv)), .kept w w.heap.size] := hI.2
        clear hI
        have hD := recDecode_any wr m (HM.out wr (hJ.at_ 1 rfl : _ ∧ _).1) B A n c b (hJ.at_ 0 rfl : _ ∧ _).1 HNC.out HCM.out (hJ.at_ 0 rfl : _ ∧ _).2
        unfold RdPost at hD
        have HSM := Lib.hid (recRes_small b)
        have HFO := Lib.hid (@res_forth b)
        generalize (recRes b).1 = X at *
        generalize (recRes b).2 = q at *
        go_upto_region 13 with (first
          | (go_at_call 7; refine hD.mono ?_; clear hD; rintro e w2 ⟨sc, se, sm, sp, rfl, hin, hb2⟩; have hW2 := (hJ.call hb2).cons (r := .low (Go.AdR.Low.recd w2.heap.size X sc se sm sp)) ⟨hin, Nat.le_refl _⟩; clear hin hb2 hJ)
          | (refine wl_store_at (hW2.new (l := recZ) recZ.toArray 31 rfl rfl) 0 rfl 31 (.tmp 13) (.tmp 52) rfl w2.heap.size _ recZ (recC X sc se sm sp) rfl rfl rfl rfl (by kernel_rfl) (recC_one _ _ _ _ _) ⟨fun g e => (by injection e with e; subst e; exact Nat.le_refl _), fun g e => (by have := (hW2.at_ 1 rfl : _ ∧ B ≤ w2.heap.size).2; injection e with e; subst e; exact this), fun g e => (by have := (hW2.at_ 2 rfl : _ ∧ w.heap.size ≤ w2.heap.size).2; injection e with e; subst e; exact this), trivial⟩ ?_; intro w4 hW4 hs4))
        simp only [List.set_cons_zero] at hW4
        obtain ⟨gx, hgx⟩ : ∃ g, g = w2.heap.size := ⟨_, rfl⟩
        rw [← hgx] at hW4 ⊢
        clear hW2 hgx hs4
        by_cases hq : q = 0
        · obtain ⟨f1, f2, f3, f4, f5⟩ := HFO.out hq
          have hE := recEncode_any w4 gx X sc se sm sp (hW4.at_ 1 rfl : _ ∧ _).1 HSM.out.1 (hW4.at_ 1 rfl : _ ∧ gx ≤ w4.heap.size).2 f4 f5 m (HM.out w4 (hW4.at_ 3 rfl : _ ∧ _).1) (HT.out w4 (hW4.at_ 3 rfl : _ ∧ _).1)
          replace hE := hE.mono fun e w' h => RecPost.full h f1 f2
          rw [f3] at hE
          have HL8 : Hid ((recC X sc se sm sp).length = 8) := Lib.hid rfl
          clear f1 f2 f3 f4 f5 HSM HFO
          subst hq
          go_upto_region 16 with (first
            | (refine wl_load_any rfl 31 (.tmp 13) rfl ⟨gx, 0, none⟩ rfl (recC X sc se sm sp) _ (cell_all (hW4.at_ 0 rfl)) Tryz.underlying31 rfl (by rw [HL8.out]; kernel_rfl) ?_)
            | (go_at_call 12; refine hE.mono ?_; clear hE; rintro e w5 ⟨A5, n5, c5, rfl, hb5, hO5⟩; have hW5 := ((hW4.call hb5).2.2).cons (r := .low (.rd w5.heap.size 1 A5 n5 (b.map bv))) ⟨hO5.rd, Nat.le_refl _⟩; clear hO5 hb5 hW4))
          have hk9 := (hW5.at_ 2 rfl : _ ∧ w.heap.size ≤ w5.heap.size)
          have haw := awake_any m w5 (HM.out w5 hk9.1) (Nat.lt_of_lt_of_le HGM.out hk9.2) (HT.out w5 hk9.1)
          obtain ⟨B5, hB5⟩ : ∃ s, s = w5.heap.size := ⟨_, rfl⟩
          have hW6 : All w5 [.low (.rd B5 1 A5 n5 (b.map bv)), .low (.rd B 1 A n (b.map bv)), .kept w w.heap.size] := by rw [hB5]; exact hW5
          clear hW5 hB5
          go_wp2_with (go_at_call 10; refine haw.mono ?_; clear haw; rintro e w9 ⟨rfl, hb9⟩; have hW9 := hW6.call hb9; have hcv1 := run_conv (P := Tryz.prog) w9 22 9 5 Tryz.underlying22 Tryz.underlying5 Tryz.underlying9 (c := c5) (hW9.at_ 0 rfl : _ ∧ _).1; have hcv2 := run_conv (P := Tryz.prog) w9 22 9 5 Tryz.underlying22 Tryz.underlying5 Tryz.underlying9 (c := c) (hW9.at_ 1 rfl : _ ∧ _).1)
          go_ret
          exact ⟨ret_bool (by simp), (hW9.at_ 2 rfl : _ ∧ _).1⟩
        · have dq : (q != 0) = true := by simpa using hq
          have hk9 := (hW4.at_ 3 rfl : _ ∧ w.heap.size ≤ w4.heap.size)
          have haw := awake_any m w4 (HM.out w4 hk9.1) (Nat.lt_of_lt_of_le HGM.out hk9.2) (HT.out w4 hk9.1)
          clear hq HSM HFO
          go_wp2_with (go_at_call 10; refine haw.mono ?_; clear haw; rintro e w9 ⟨rfl, hb9⟩)
          go_ret
          exact ⟨rfl, hk9.1.trans (hb9.mono hk9.2)⟩
end Go.Proofs.YtjdinakdkdjocaaGreatDoor

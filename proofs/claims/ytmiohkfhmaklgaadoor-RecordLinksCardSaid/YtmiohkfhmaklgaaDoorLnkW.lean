/- The law RecordLinks. -/
import Derived.Test.YtmiohkfhmaklgaaDoorRecs
import Derived.Test.YtmiohkfhmaklgaaDoorLnkA
import Derived.Test.YtmiohkfhmaklgaaDoorRec3
set_option linter.unusedSimpArgs false
set_option linter.unusedVariables false
set_option maxRecDepth 100000
namespace Go.AdR
open Go Go.RowKit Go.Adm
theorem RecGood.keep {w w' : World} {B : Nat} {r : RecM} (h : RecGood w B r) (hk : ∀ p : Addr, p.block < B → w'.cell? p = w.cell? p) : RecGood w' B r := ⟨h.inn.keep hk, h.ok, h.lo, h.hi⟩
def Low.recs (B : Nat) (A : Option Addr) (n : Nat) (rs : List RecM) : Low := ⟨B, fun w => Els w B 8 A n (rs.map RecM.cells) ∧ ∀ r ∈ rs, RecGood w B r, fun _ _ hk h => ⟨h.1.keep hk, fun r hr => (h.2 r hr).keep hk⟩⟩
theorem resC {tid : TypeId} {r : List C} {err : Int} {w : World} {e : Ending} {w' : World} (h : ResPost chgC 65 r err tid w e w') (h32 : ∀ c ∈ r, C32 c) : ∃ A c, e = .returned (.tuple #[.slice A r.length c, .int .i64 err]) ∧ Els w' w'.heap.size 65 A r.length (r.map chgC) ∧ Below w.heap.size w w' := by
  obtain ⟨A, c, h1, h2, h3⟩ := h
  exact ⟨A, c, h1, Els.of h2 (chgs_len h32) (by rw [List.length_map]), h3⟩
theorem resE {tid : TypeId} {r : List E} {err : Int} {w : World} {e : Ending} {w' : World} (h : ResPost entC 33 r err tid w e w') (h32 : ∀ c ∈ r, E32 c) : ∃ A c, e = .returned (.tuple #[.slice A r.length c, .int .i64 err]) ∧ Els w' w'.heap.size 33 A r.length (r.map entC) ∧ Below w.heap.size w w' := by
  obtain ⟨A, c, h1, h2, h3⟩ := h
  exact ⟨A, c, h1, Els.of h2 (ents_len h32) (by rw [List.length_map]), h3⟩
end Go.AdR
namespace Go.Proofs.YtmiohkfhmaklgaaDoor
open Go Go.RowKit Go.Adm Go.AdR
set_option maxHeartbeats 12800000 in
theorem walkRecL (x0 : Rec) (sc0 se0 sm0 sp0 : Sl) (m : Int) (w : World) (B : Nat) (h : RecIn w B x0 sc0 se0 sm0 sp0) (hr : RecRaw x0) (A : Option Addr) (nl cl : Nat) (L : List Int) (hL : Rd w B 1 A nl (L.map iv)) (hB : B ≤ w.heap.size) (hm : w.cell? ⟨0, 0, none⟩ = some (.int .i64 m)) (ht : Lib.TabIs Tryd.prog w "internal/strconv.uint64pow10" .u64 Lib.pow10Tab) :
    Calls Tryd.prog 3 #[.agg (recC x0 sc0 se0 sm0 sp0).toArray, .slice A nl cl] w fun e w' => e = .returned (.bool true) ∧ Below w.heap.size w w' := by
  have hgm : 0 < w.heap.size := World.block_lt_of_cell? w _ hm
  have hR : All w [.low (Go.AdR.Low.recd B x0 sc0 se0 sm0 sp0), .low (.rd B 1 A nl (L.map iv)), .kept w w.heap.size] := ⟨⟨h, hB⟩, ⟨hL, hB⟩, ⟨Below.refl _ _, Nat.le_refl _⟩, trivial⟩
  have HM : Hid (∀ W, Below w.heap.size w W → W.cell? ⟨0, 0, none⟩ = some (.int .i64 m)) := Lib.hid (fun W hb => (hb.cell hgm).trans hm)
  have HT : Hid (∀ W, Below w.heap.size w W → Lib.TabIs Tryd.prog W "internal/strconv.uint64pow10" .u64 Lib.pow10Tab) := Lib.hid (fun W hb => tab_keep ht hb)
  have HCL0 : Hid ((recC x0 sc0 se0 sm0 sp0).length = 8) := Lib.hid rfl
  clear h hB hL hm ht
  have hzr := zero_rec
  have hzl := zero_link
  go_enter Tryd.func3, Tryd.ntmps3
  go_upto_region 1 with (fail)
  refine wp_gen (hR.new (l := recC x0 sc0 se0 sm0 sp0) _ 26 rfl rfl) ?_
  intro W hW
  clear hR
  have hrecs := records_any W B x0 sc0 se0 sm0 sp0 (hW.at_ 1 rfl : _ ∧ _).1 hr A nl cl L (hW.at_ 2 rfl : _ ∧ _).1 (hW.at_ 1 rfl : _ ∧ _).2
  clear hr
  go_upto_region 2 with (first
    | (refine wl_load_any rfl 26 (.tmp 2) rfl ⟨w.heap.size, 0, none⟩ rfl (recC x0 sc0 se0 sm0 sp0) _ (cell_all (hW.at_ 0 rfl)) Tryd.underlying26 rfl (by rw [HCL0.out]; kernel_rfl) ?_)
    | (go_at_call 4; refine hrecs.mono ?_; clear hrecs; rintro e w2 ⟨AR, nR, cR, rs, rfl, hn3, hlen, hels, hgood, hb2⟩; have hk2 := (hW.at_ 3 rfl : _ ∧ w.heap.size ≤ W.heap.size); have hI0 : All w2 [.low (Go.AdR.Low.recs w2.heap.size AR nR rs), .kept w w.heap.size] := ⟨⟨⟨hels, hgood⟩, Nat.le_refl _⟩, ⟨hk2.1.trans (hb2.mono hk2.2), Nat.le_trans hk2.2 hb2.size⟩, trivial⟩; clear hels hgood hW hk2 hb2))
  obtain ⟨B2, hB2⟩ : ∃ b, b = w2.heap.size := ⟨_, rfl⟩
  rw [← hB2] at hI0
  have HLN := Lib.hid hlen
  clear hB2 hlen
  go_loopw [18] (fun i wr => ∃ k : Nat, k ≤ nR ∧ i = .int .i64 k ∧ All wr [.low (Go.AdR.Low.recs B2 AR nR rs), .kept w w.heap.size]) (fun i _ => nR - (intOf i).toNat)
  case atStart => exact ⟨0, by omega, rfl, hI0⟩
  case round =>
    clear hI0
    obtain ⟨k, hk, rfl, hI⟩ := hrel
    by_cases hlt : k < nR
    · have hkl : k < rs.length := by rw [HLN.out]; exact hlt
      obtain ⟨ad, hA', hadB, hc⟩ := Els.at_ (hI.at_ 0 rfl : (Els wr B2 8 AR nR (rs.map RecM.cells) ∧ _) ∧ _).1.1 (k := k) (by rw [List.length_map]; exact hkl)
      subst hA'
      rw [List.getElem_map] at hc
      have HG : Hid (∀ W, All W [.low (Go.AdR.Low.recs B2 (some ad) nR rs), .kept w w.heap.size] → RecGood W B2 rs[k]) := Lib.hid (fun W hW => (hW.at_ 0 rfl : (_ ∧ ∀ r ∈ rs, RecGood W B2 r) ∧ _).1.2 _ (List.getElem_mem hkl))
      have HC := Lib.hid hc
      clear hc
      generalize rs[k] = r at *
      obtain ⟨x, sc, se, sm, sp⟩ := r
      change Hid (∀ j u, (recC x sc se sm sp)[j]? = some u → wr.cell? ((ad.add (k * 8)).add j) = some u) at HC
      have HCL : Hid ((recC x sc se sm sp).length = 8) := Lib.hid rfl
      have d1 : decide ((k : Int) < (nR : Int)) = true := by simp; omega
      have wk1 : (0 : Int) ≤ (k : Int) := by omega
      have wk2 : (k : Int) < (nR : Int) := by omega
      have wk3 : ((k : Int)).toNat = k := by omega
      have wk4 : IntKind.i64.wrap ((k : Int) + 1) = ((k + 1 : Nat) : Int) := by rw [IntWalk.i64_in _ (by omega)]; omega
      have hBw : B2 ≤ wr.heap.size := (hI.at_ 0 rfl : _ ∧ _).2
      have hkw := (hI.at_ 1 rfl : _ ∧ w.heap.size ≤ wr.heap.size).2
      go_upto_region 4 with (first
        | (refine wl_load_any rfl 26 (.tmp 20) rfl (ad.add (k * 8)) rfl (recC x sc se sm sp) _ HC.out Tryd.underlying26 rfl (by rw [HCL.out]; kernel_rfl) ?_)
        | (refine wl_store_at (hI.new (l := recZ) recZ.toArray 26 rfl rfl) 0 rfl 26 (.tmp 6) (.tmp 21) rfl wr.heap.size _ recZ (recC x sc se sm sp) rfl rfl rfl rfl (by rw [HCL.out]; kernel_rfl) (recC_one _ _ _ _ _) ⟨fun g e => (by injection e with e; subst e; show B2 ≤ _; omega), fun g e => by injection e with e; omega, trivial⟩ ?_; intro W3 hW3 hs3))
      simp only [List.set_cons_zero] at hW3
      obtain ⟨gx, hgx⟩ : ∃ g, g = wr.heap.size := ⟨_, rfl⟩
      rw [← hgx] at hW3 ⊢
      clear hI hgx d1 HC hs3 hBw hkw
      have hg3 := HG.out W3 hW3.2
      have HOK := Lib.hid hg3.ok
      have HNM : Hid (x.mat.length = sm.n) := Lib.hid (by have := hg3.inn.mat.len; simpa using this)
      have HNP : Hid (x.prod.length = sp.n) := Lib.hid (by have := hg3.inn.prod.len; simpa using this)
      have hE1 := RecLink_any W3 B2 x sc se sm sp hg3.inn hg3.ok (hW3.at_ 1 rfl : _ ∧ _).2
      clear hg3
      go_upto_region 5 with (first
        | (refine wl_load_any rfl 26 (.tmp 6) rfl ⟨gx, 0, none⟩ rfl (recC x sc se sm sp) _ (cell_all (hW3.at_ 0 rfl)) Tryd.underlying26 rfl (by rw [HCL.out]; kernel_rfl) ?_)
        | (go_at_call 5; refine hE1.mono ?_; clear hE1; rintro e w4 ⟨sa, sb, hsa, hsb, rfl, hb4, hela, helb⟩; have hW4 : All w4 [.low (.els w4.heap.size 33 sa.A sa.n (x.mat.map entC)), .low (.els w4.heap.size 33 sb.A sb.n (x.prod.map entC)), .cells gx 26 (recC x sc se sm sp), .low (Go.AdR.Low.recs B2 (some ad) nR rs), .kept w w.heap.size] := ⟨⟨hela, Nat.le_refl _⟩, ⟨helb, Nat.le_refl _⟩, hW3.call hb4⟩; have hl4 := Cells.lt (hW4.at_ 2 rfl); have hB4 : B2 ≤ w4.heap.size := (hW4.at_ 3 rfl : _ ∧ _).2; have hk4 : w.heap.size ≤ w4.heap.size := (hW4.at_ 4 rfl : _ ∧ _).2; clear hW3 hela helb hb4)
        | (refine wl_store_at (hW4.new (l := linkZ) linkZ.toArray 31 rfl rfl) 0 rfl 31 (.tmp 7) (.tmp 23) rfl w4.heap.size _ linkZ (lnkC x.step sa sb) rfl rfl rfl rfl (by kernel_rfl) (lnkC_one _ _ _) ⟨fun g e => (by injection e with e; subst e; exact Nat.le_refl _), fun g e => (by injection e with e; subst e; exact Nat.le_refl _), fun e => by injection e with e; omega, fun g e => (by injection e with e; subst e; show B2 ≤ _; omega), fun g e => by injection e with e; omega, trivial⟩ ?_; intro V4 hV4 hs4))
      simp only [List.set_cons_zero] at hV4
      obtain ⟨B4, hB4'⟩ : ∃ g, g = w4.heap.size := ⟨_, rfl⟩
      rw [← hB4'] at hV4 ⊢
      obtain ⟨gl, hgl⟩ : ∃ g, g = B4 := ⟨_, rfl⟩
      have hV4' : All V4 [.cells gl 31 (lnkC x.step sa sb), .low (.els B4 33 sa.A sa.n (x.mat.map entC)), .low (.els B4 33 sb.A sb.n (x.prod.map entC)), .cells gx 26 (recC x sc se sm sp), .low (Go.AdR.Low.recs B2 (some ad) nR rs), .kept w w.heap.size] := by rw [hgl]; exact hV4
      rw [← hgl]
      clear hV4 hs4 hgl hB4' hl4 hB4 hk4
      have hV4 := hV4'
      clear hV4'
      have HSA := Lib.hid hsa
      have HSB := Lib.hid hsb
      clear hsa hsb
      have HQ1 : Hid (x.mat.length = sa.n) := Lib.hid (by rw [HSA.out]; exact HNM.out)
      have HQ2 : Hid (x.prod.length = sb.n) := Lib.hid (by rw [HSB.out]; exact HNP.out)
      have HQ3 : Hid (sa.n ≤ 400000) := Lib.hid (by rw [← HQ1.out]; exact HOK.out.nmat)
      have HQ4 : Hid (sb.n ≤ 400000) := Lib.hid (by rw [← HQ2.out]; exact HOK.out.nprod)
      have h32 := pDiff_32 HOK.out.mat HOK.out.prod
      have hlen5 := pDiff_small x.mat x.prod
      have hback := @pDiff_back x.mat x.prod HOK.out.mat HOK.out.prod
      have hE2 := Changes_any V4 B4 x.step sa sb x.mat x.prod (hV4.at_ 1 rfl : _ ∧ _).1 (hV4.at_ 2 rfl : _ ∧ _).1 HOK.out.mat HOK.out.prod HQ1.out HQ2.out HQ3.out HQ4.out (hV4.at_ 1 rfl : _ ∧ _).2
      have HE3 : Hid (∀ W, All W [.cells gx 26 (recC x sc se sm sp), .low (Go.AdR.Low.recs B2 (some ad) nR rs), .kept w w.heap.size] → Calls Tryd.prog 7 #[.agg (lnkC x.step sm sp).toArray] W (ResPost chgC 65 (pDiff x.mat x.prod).1 (pDiff x.mat x.prod).2 60 W)) := Lib.hid (fun W hW => rChanges_any W m (HM.out W (hW.at_ 2 rfl : _ ∧ _).1) B2 x.step sm sp x.mat x.prod (HG.out W hW.2).inn.mat (HG.out W hW.2).inn.prod HOK.out.mat HOK.out.prod HNM.out HNP.out (by rw [← HNM.out]; exact HOK.out.nmat) (by rw [← HNP.out]; exact HOK.out.nprod) (hW.at_ 1 rfl : _ ∧ _).2)
      obtain ⟨r, hr⟩ : ∃ r, r = (pDiff x.mat x.prod).1 := ⟨_, rfl⟩
      obtain ⟨er, her⟩ : ∃ e, e = (pDiff x.mat x.prod).2 := ⟨_, rfl⟩
      rw [← hr] at h32 hlen5 hback hE2 HE3
      rw [← her] at hback hE2 HE3
      clear hr her
      have H32 := Lib.hid h32
      have HBK := Lib.hid hback
      have HR9 : Hid (r.length ≤ 400000 ∧ r.length ≤ 1000000) := Lib.hid (by
        constructor <;> omega)
      clear h32 hlen5 hback
      go_upto_region 6 with (first
        | (refine wl_load_any rfl 31 (.tmp 7) rfl ⟨gl, 0, none⟩ rfl (lnkC x.step sa sb) _ (cell_all (hV4.at_ 0 rfl)) Tryd.underlying31 rfl (by kernel_rfl) ?_)
        | (go_at_call 6; refine hE2.mono ?_; clear hE2; intro e w5 hE5; obtain ⟨A5, c5, rfl, hel5, hb5⟩ := resC hE5 H32.out; clear hE5; have hW5 := (hV4.call hb5).cons (r := .low (.els w5.heap.size 65 A5 r.length (r.map chgC))) ⟨hel5, Nat.le_refl _⟩; clear hel5 hb5 hV4))
      go_upto_region 7 with (first
        | (refine wl_load_any rfl 26 (.tmp 6) rfl ⟨gx, 0, none⟩ rfl (recC x sc se sm sp) _ (cell_all (hW5.at_ 4 rfl)) Tryd.underlying26 rfl (by rw [HCL.out]; kernel_rfl) ?_)
        | (go_at_call 8; refine (rLink_any _ x sc se sm sp).mono ?_; rintro e w6 ⟨rfl, hb6⟩; have hW6 := hW5.call hb6; have hE3 := HE3.out w6 hW6.2.2.2.2; clear hW5 hb6)
        | (go_at_call 7; refine hE3.mono ?_; clear hE3; intro e w7 hE7; obtain ⟨A7, c7, rfl, hel7, hb7⟩ := resC hE7 H32.out; clear hE7; have hI7 := (hW6.call hb7).cons (r := .low (.els w7.heap.size 65 A7 r.length (r.map chgC))) ⟨hel7, Nat.le_refl _⟩; clear hel7 hb7 hW6))
      clear HE3
      obtain ⟨n5, hn5⟩ : ∃ n, n = r.length := ⟨_, rfl⟩
      rw [← hn5] at hI7 HR9
      simp only [← hn5]
      have HN5 := Lib.hid hn5
      clear hn5
      have HSL : Hid (∀ W, All W [.low (.els w7.heap.size 65 A7 n5 (r.map chgC)), .low (.els w5.heap.size 65 A5 n5 (r.map chgC)), .cells gl 31 (lnkC x.step sa sb), .low (.els B4 33 sa.A sa.n (x.mat.map entC)), .low (.els B4 33 sb.A sb.n (x.prod.map entC)), .cells gx 26 (recC x sc se sm sp), .low (Go.AdR.Low.recs B2 (some ad) nR rs), .kept w w.heap.size] → Calls Tryd.prog 9 #[.agg (lnkC x.step sa sb).toArray, .agg (lnkC x.step sm sp).toArray] W fun e w' => e = .returned (.bool true) ∧ Below W.heap.size W w') := Lib.hid (fun W hW => SameLink_true W W.heap.size x.step sa sb sm sp x.mat x.prod ((hW.at_ 3 rfl : Els W B4 33 sa.A sa.n (x.mat.map entC) ∧ _).1.mono (hW.at_ 3 rfl : _ ∧ _).2) ((hW.at_ 4 rfl : Els W B4 33 sb.A sb.n (x.prod.map entC) ∧ _).1.mono (hW.at_ 4 rfl : _ ∧ _).2) (by have := (HG.out W hW.2.2.2.2.2.2).inn.mat.mono (hW.at_ 6 rfl : _ ∧ _).2; rwa [← HSA.out] at this) (by have := (HG.out W hW.2.2.2.2.2.2).inn.prod.mono (hW.at_ 6 rfl : _ ∧ _).2; rwa [← HSB.out] at this) HSA.out.symm HSB.out.symm HOK.out.mat HOK.out.prod HQ1.out HQ2.out HQ3.out HQ4.out (Nat.le_refl _))
      have HSC : Hid (∀ W, All W [.low (.els w7.heap.size 65 A7 n5 (r.map chgC)), .low (.els w5.heap.size 65 A5 n5 (r.map chgC)), .cells gl 31 (lnkC x.step sa sb), .low (.els B4 33 sa.A sa.n (x.mat.map entC)), .low (.els B4 33 sb.A sb.n (x.prod.map entC)), .cells gx 26 (recC x sc se sm sp), .low (Go.AdR.Low.recs B2 (some ad) nR rs), .kept w w.heap.size] → Calls Tryd.prog 10 #[.slice A5 n5 c5, .slice A7 n5 c7] W fun e w' => e = .returned (.bool true) ∧ Below W.heap.size W w') := Lib.hid (fun W hW => SameChanges_true W W.heap.size A5 A7 n5 c5 c7 r ((hW.at_ 1 rfl : Els W w5.heap.size 65 A5 n5 (r.map chgC) ∧ _).1.mono (hW.at_ 1 rfl : _ ∧ _).2) ((hW.at_ 0 rfl : Els W w7.heap.size 65 A7 n5 (r.map chgC) ∧ _).1.mono (hW.at_ 0 rfl : _ ∧ _).2) H32.out HN5.out.symm HR9.out.2 (Nat.le_refl _))
      refine wp_region_hops 15 [35, 36, 37, 38, 39, 40, 41, 42, 43, 44, 45, 46, 47, 48, 49] [.low (.els w7.heap.size 65 A7 n5 (r.map chgC)), .low (.els w5.heap.size 65 A5 n5 (r.map chgC)), .cells gl 31 (lnkC x.step sa sb), .low (.els B4 33 sa.A sa.n (x.mat.map entC)), .low (.els B4 33 sb.A sb.n (x.prod.map entC)), .cells gx 26 (recC x sc se sm sp), .low (Go.AdR.Low.recs B2 (some ad) nR rs), .kept w w.heap.size]
        [.eq (.agg (lnkC x.step sa sb).toArray), .eq (.agg (recC x sc se sm sp).toArray), .eq (.agg (lnkC x.step sm sp).toArray), .eq (.bool true), .eq (.bool false), .eq (.bool false), .eq (.int .i64 er), .eq (.int .i64 er), .eq (.bool false), .eq (.bool false), .eq (.bool false), .eq (.slice A5 n5 c5), .eq (.slice A7 n5 c7), .eq (.bool true), .eq (.bool false)]
        (by kernel_rfl) (by kernel_rfl) hI7 rfl ?hops ?fin
      case hops =>
        refine ⟨?_, ?_, ?_, ?_, ?_, ?_, ?_, ?_, ?_, ?_, ?_, ?_, ?_, ?_, ?_, trivial⟩
        · intro a' W hW hb hd K hK
          have b7 := hb 7 rfl
          refine wp_load_any 31 (.tmp 7) rfl ⟨gl, 0, none⟩ (show a'.eval (.tmp 7) = _ from by simp only [Act.eval, Array.getD_eq_getD_getElem?]; exact b7) (lnkC x.step sa sb) _ (cell_all (hW.at_ 2 rfl)) Tryd.underlying31 rfl (by kernel_rfl) ?_
          exact hK _ _ (World.grownBy.refl _ _) rfl
        · intro a' W hW hb hd K hK
          have b6 := hb 6 rfl
          refine wp_load_any 26 (.tmp 6) rfl ⟨gx, 0, none⟩ (show a'.eval (.tmp 6) = _ from by simp only [Act.eval, Array.getD_eq_getD_getElem?]; exact b6) (recC x sc se sm sp) _ (cell_all (hW.at_ 5 rfl)) Tryd.underlying26 rfl (by kernel_rfl) ?_
          exact hK _ _ (World.grownBy.refl _ _) rfl
        · intro a' W hW hb hd K hK
          have b36 : a'.tmps[36]?.getD undef = _ := hd ⟨1, .data⟩ (by simp) rfl
          go_simp
          refine (rLink_any W x sc se sm sp).mono ?_
          rintro e w' ⟨rfl, hb'⟩
          exact hK _ _ (grown_of_below hb') rfl
        · intro a' W hW hb hd K hK
          have b35 : a'.tmps[35]?.getD undef = _ := hd ⟨0, .data⟩ (by simp) rfl
          have b37 : a'.tmps[37]?.getD undef = _ := hd ⟨2, .data⟩ (by simp) rfl
          go_simp
          refine (HSL.out W hW).mono ?_
          rintro e w' ⟨rfl, hb'⟩
          exact hK _ _ (grown_of_below hb') rfl
        · intro a' W hW hb hd K hK
          have b38 : a'.tmps[38]?.getD undef = _ := hd ⟨3, .data⟩ (by simp) rfl
          go_simp
          exact hK _ _ (World.grownBy.refl _ _) rfl
        · intro a' W hW hb hd K hK
          have b39 : a'.tmps[39]?.getD undef = _ := hd ⟨4, .data⟩ (by simp) rfl
          go_simp
          exact hK _ _ (World.grownBy.refl _ _) rfl
        · refine Or.inl ⟨fun v w h => h, ?_⟩
          intro a' W hW hb hd K hK
          have b9 := hb 9 rfl
          go_simp
          exact hK _ _ (World.grownBy.refl _ _) rfl
        · refine Or.inl ⟨fun v w h => h, ?_⟩
          intro a' W hW hb hd K hK
          have b11 := hb 11 rfl
          go_simp
          exact hK _ _ (World.grownBy.refl _ _) rfl
        · refine Or.inl ⟨fun v w h => h, ?_⟩
          intro a' W hW hb hd K hK
          have b41 : a'.tmps[41]?.getD undef = _ := hd ⟨6, .data⟩ (by simp) rfl
          have b42 : a'.tmps[42]?.getD undef = _ := hd ⟨7, .data⟩ (by simp) rfl
          go_simp
          exact hK _ _ (World.grownBy.refl _ _) rfl
        · intro a' W hW hb hd K hK
          have b40 : a'.tmps[40]?.getD undef = _ := hd ⟨5, .data⟩ (by simp) rfl
          have b43 : a'.tmps[43]?.getD undef = _ := hd ⟨8, .data⟩ (by simp) rfl
          go_simp
          exact hK _ _ (World.grownBy.refl _ _) rfl
        · intro a' W hW hb hd K hK
          have b44 : a'.tmps[44]?.getD undef = _ := hd ⟨9, .data⟩ (by simp) rfl
          go_simp
          exact hK _ _ (World.grownBy.refl _ _) rfl
        · refine Or.inl ⟨fun v w h => h, ?_⟩
          intro a' W hW hb hd K hK
          have b8 := hb 8 rfl
          go_simp
          exact hK _ _ (World.grownBy.refl _ _) rfl
        · refine Or.inl ⟨fun v w h => h, ?_⟩
          intro a' W hW hb hd K hK
          have b10 := hb 10 rfl
          go_simp
          exact hK _ _ (World.grownBy.refl _ _) rfl
        · refine Or.inl ⟨fun v w h => h, ?_⟩
          intro a' W hW hb hd K hK
          have b46 : a'.tmps[46]?.getD undef = _ := hd ⟨11, .data⟩ (by simp) rfl
          have b47 : a'.tmps[47]?.getD undef = _ := hd ⟨12, .data⟩ (by simp) rfl
          go_simp
          refine (HSC.out W hW).mono ?_
          rintro e w' ⟨rfl, hb'⟩
          exact hK _ _ (grown_of_below hb') rfl
        · refine Or.inl ⟨fun v w h => h, ?_⟩
          intro a' W hW hb hd K hK
          have b48 : a'.tmps[48]?.getD undef = _ := hd ⟨13, .data⟩ (by simp) rfl
          go_simp
          exact hK _ _ (World.grownBy.refl _ _) rfl
      case fin =>
        intro vs V hV hv
        have e45 : vs 10 = .bool false := hv 10 (by decide)
        have e49 : vs 14 = .bool false := hv 14 (by decide)
        clear hv hI7 HSL HSC
        simp only [putAll, Nat.zero_add, Nat.reduceAdd, List.drop_succ_cons, List.drop_zero, e45, e49, Act.put, List.setIfInBounds_toArray, List.set_cons_succ, List.set_cons_zero]
        clear e45 e49
        cases d9 : decide (er = 0) with
        | false =>
          have hV5 := hV.2.2.2.2.2.2
          have d9b : (er != 0) = true := by simpa using d9
          clear hV
          go_wp2_with fail
          exact ⟨⟨k + 1, by omega, rfl, hV5⟩, by simp [intOf]; omega⟩
        | true =>
          have d9b : (er != 0) = false := by simpa using d9
          have hap := HBK.out (of_decide_eq_true d9)
          have c6 := cell_of (hV.at_ 5 rfl) (i := 6) rfl
          have hg9 := HG.out V hV.2.2.2.2.2.2
          have hA9 := Apply_any V V.heap.size sm.A A5 sm.n sm.c n5 c5 x.mat r (hg9.inn.mat.mono (hV.at_ 6 rfl : _ ∧ _).2) ((hV.at_ 1 rfl : Els V w5.heap.size 65 A5 n5 (r.map chgC) ∧ _).1.mono (hV.at_ 1 rfl : _ ∧ _).2) HOK.out.mat H32.out HNM.out HN5.out.symm (by rw [← HNM.out]; exact HOK.out.nmat) HR9.out.1 (Nat.le_refl _)
          rw [hap] at hA9
          clear hap hg9
          go_upto_region 11 with (go_at_call 11; refine hA9.mono ?_; clear hA9; intro e w9 hE9; obtain ⟨A9, c9, rfl, hel9, hb9⟩ := resE hE9 HOK.out.prod; clear hE9; have hW9 := hV.call hb9)
          clear hV hb9 c6
          have c7p := cell_of (hW9.at_ 5 rfl) (i := 7) rfl
          have hs9 := Same_true w9 w9.heap.size A9 sp.A sp.n c9 sp.c x.prod (by have := hel9; rwa [HNP.out] at this) ((HG.out w9 hW9.2.2.2.2.2.2).inn.prod.mono (hW9.at_ 6 rfl : _ ∧ _).2) HOK.out.prod HNP.out (by rw [← HNP.out]; exact Nat.le_trans HOK.out.nprod (by decide)) (Nat.le_refl _)
          clear hel9
          have HNP' := HNP.out
          rw [HNP']
          clear HNP'
          go_wp2_with (go_at_call 12; refine hs9.mono ?_; clear hs9; rintro e w10 ⟨rfl, hb10⟩; have hW10 := hW9.call hb10)
          have hV5 := hW10.2.2.2.2.2.2
          exact ⟨⟨k + 1, by omega, rfl, hV5⟩, by simp [intOf]; omega⟩
    · obtain rfl : k = nR := by omega
      have d1 : decide ((k : Int) < (k : Int)) = false := by simp
      have hk9 := (hI.at_ 1 rfl : _ ∧ w.heap.size ≤ wr.heap.size)
      have haw := awake_any m wr (HM.out wr hk9.1) (Nat.lt_of_lt_of_le hgm hk9.2) (HT.out wr hk9.1)
      go_wp2_with (go_at_call 13; refine haw.mono ?_; clear haw; rintro e w9 ⟨rfl, hb9⟩)
      go_ret
      exact ⟨rfl, hk9.1.trans (hb9.mono hk9.2)⟩
end Go.Proofs.YtmiohkfhmaklgaaDoor

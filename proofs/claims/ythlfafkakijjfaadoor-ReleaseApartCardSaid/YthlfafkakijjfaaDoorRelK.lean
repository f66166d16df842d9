/- The law ReleaseApart. -/
import Derived.Test.YthlfafkakijjfaaDoorRelJ
import Derived.Test.YthlfafkakijjfaaDoorRelW
import Derived.Test.YthlfafkakijjfaaDoorRel5
set_option linter.unusedSimpArgs false
set_option linter.unusedVariables false
set_option maxRecDepth 100000
namespace Go.Adm
open Go Go.RowKit Go.AdP
theorem hexl_hexv (c : UInt8) : AdP.hexv c ≠ 16 → hexl (UInt8.ofNat (AdP.hexv c)) = c := AdP.all_u8 (P := fun c => AdP.hexv c ≠ 16 → hexl (UInt8.ofNat (AdP.hexv c)) = c) (by decide +kernel) c
theorem hexl_hi : ∀ a b : Fin 16, hexl ((UInt8.ofNat (16 * a.val + b.val)) >>> 4) = hexl (UInt8.ofNat a.val) := by decide +kernel
theorem hexl_lo : ∀ a b : Fin 16, hexl ((UInt8.ofNat (16 * a.val + b.val)) &&& 15) = hexl (UInt8.ofNat b.val) := by decide +kernel
theorem unhex_back {n : Nat} {s v : List UInt8} (h : AdP.unhexS n s = some v) : hexL v = s := by
  have hv : v.length = n := AdP.unhexS_32 h
  unfold AdP.unhexS at h
  split at h
  · rename_i hc
    obtain ⟨hl, hall⟩ := hc
    have hvv := Option.some.inj h
    apply List.ext_getElem (by rw [hexL_len]; omega)
    intro j h1 h2
    have hi : j / 2 < v.length := by rw [hexL_len] at h1; omega
    obtain ⟨k1, k2⟩ := AdP.hexL_at v (j / 2) hi
    have hp : AdP.pairB s (j / 2) = true := List.all_eq_true.1 hall _ (List.mem_range.2 (by omega))
    unfold AdP.pairB at hp
    simp only [Bool.and_eq_true, bne_iff_ne, ne_eq] at hp
    have hvj : v[j / 2] = AdP.pairV s (j / 2) := by
      subst hvv
      simp
    have l1 := AdP.hexv_le (s.getD (2 * (j / 2)) 0)
    have l2 := AdP.hexv_le (s.getD (2 * (j / 2) + 1) 0)
    have key : (hexL v).getD j 0 = s.getD j 0 := by
      rcases Nat.mod_two_eq_zero_or_one j with hm | hm
      · have e : 2 * (j / 2) = j := by omega
        have q := hexl_hi ⟨AdP.hexv (s.getD (2 * (j / 2)) 0), by omega⟩ ⟨AdP.hexv (s.getD (2 * (j / 2) + 1) 0), by omega⟩
        rw [hvj] at k1
        unfold AdP.pairV at k1
        rw [show hexl (UInt8.ofNat (16 * AdP.hexv (s.getD (2 * (j / 2)) 0) + AdP.hexv (s.getD (2 * (j / 2) + 1) 0)) >>> 4) = _ from q] at k1
        rw [hexl_hexv _ hp.1, e] at k1
        exact k1
      · have e : 2 * (j / 2) + 1 = j := by omega
        have q := hexl_lo ⟨AdP.hexv (s.getD (2 * (j / 2)) 0), by omega⟩ ⟨AdP.hexv (s.getD (2 * (j / 2) + 1) 0), by omega⟩
        rw [hvj] at k2
        unfold AdP.pairV at k2
        rw [show hexl (UInt8.ofNat (16 * AdP.hexv (s.getD (2 * (j / 2)) 0) + AdP.hexv (s.getD (2 * (j / 2) + 1) 0)) &&& 15) = _ from q] at k2
        rw [hexl_hexv _ hp.2, e] at k2
        exact k2
    rw [List.getD_eq_getElem?_getD, List.getD_eq_getElem?_getD, List.getElem?_eq_getElem h1, List.getElem?_eq_getElem h2] at key
    exact key
  · cases h
theorem parseD_back {s v : List UInt8} (h : AdP.parseD s = some v) : fmtL v = s := by
  unfold AdP.parseD at h
  split at h
  · rename_i h1
    unfold fmtL
    rw [unhex_back h, ← h1, List.take_append_drop]
  · cases h
theorem ba_of {s : ByteArray} {l : List UInt8} (h : l = s.data.toList) : (⟨l.toArray⟩ : ByteArray) = s := by
  subst h
  cases s
  simp
theorem decR_zero {b : List UInt8} {ls : List (List ByteArray)} (h0 : (decR b).2 = 0) (h : (decR b).1 = ls) : docE ls = 0 ∧ encD ls = b := by
  unfold decR at h0 h
  by_cases h1 : 262144 < b.length
  · rw [if_pos h1] at h0; cases h0
  · rw [if_neg h1] at h0 h
    cases hd : decO b with
    | none => rw [hd] at h0; cases h0
    | some ls' =>
      rw [hd] at h0 h
      simp only at h0 h
      by_cases h2 : 1000 < ls'.length
      · rw [if_pos h2] at h0; cases h0
      · rw [if_neg h2] at h
        simp only at h
        subst h
        obtain ⟨e1, e2⟩ := decO_enc hd
        exact ⟨docE_ok h2 e2 (by rw [e1]; exact h1), e1⟩
theorem appF_doc {b : List UInt8} {x : App} (h : appF b = some x) : docE (appL x) = 0 ∧ encD (appL x) = b := by
  unfold appF at h
  split at h
  · rename_i h0
    split at h
    · rename_i l hl
      unfold appLn at h
      split at h
      · rename_i k d t
        split at h
        · rename_i hk
          split at h
          · rename_i v n hv hn
            injection h with h
            subst h
            have e : appL ⟨v, (n : Int)⟩ = [[k, d, t]] := by
              have e1 : (⟨#[97, 112, 112, 114, 111, 118, 97, 108]⟩ : ByteArray) = k := ba_of (l := [97, 112, 112, 114, 111, 118, 97, 108]) (by rw [← ByteArray.toList_eq]; exact hk.symm)
              unfold appL
              simp only
              rw [e1, ba_of (parseD_back hv), ba_of (parse_back hn).1]
            rw [e]
            exact decR_zero h0 hl
          · cases h
        · cases h
      · cases h
    · cases h
  · cases h
theorem rlsF_doc {b : List UInt8} {x : Rls} (h : rlsF b = some x) : docE (rlsL x) = 0 ∧ encD (rlsL x) = b := by
  unfold rlsF at h
  split at h
  · rename_i h0
    split at h
    · rename_i l hl
      unfold rlsLn at h
      split at h
      · rename_i k wa wd wl wr wc wt
        split at h
        · rename_i hk
          split at h
          · rename_i a d c n ha hd hc hn
            injection h with h
            subst h
            have e : rlsL ⟨a, d, wl, wr, c, (n : Int)⟩ = [[k, wa, wd, wl, wr, wc, wt]] := by
              have e1 : (⟨#[114, 101, 108, 101, 97, 115, 101]⟩ : ByteArray) = k := ba_of (l := [114, 101, 108, 101, 97, 115, 101]) (by rw [← ByteArray.toList_eq]; exact hk.symm)
              unfold rlsL
              simp only
              rw [e1, ba_of (parseD_back ha), ba_of (parseD_back hd), ba_of (parseD_back hc), ba_of (parse_back hn).1]
            rw [e]
            exact decR_zero h0 hl
          · cases h
        · cases h
      · cases h
    · cases h
  · cases h
theorem apart_F {b : List UInt8} {x : App} {y : Rls} (h : appF b = some x) (h' : rlsF b = some y) : False := by
  unfold appF at h
  unfold rlsF at h'
  split at h
  · rename_i h0
    rw [if_pos h0] at h'
    split at h
    · rename_i l hl
      rw [hl] at h'
      simp only at h'
      unfold appLn at h
      unfold rlsLn at h'
      split at h
      · simp at h'
      · cases h
    · cases h
  · cases h
end Go.Adm
namespace Go.Proofs.YthlfafkakijjfaaDoor
open Go Go.RowKit Go.Adm Go.AdP
theorem appD_zero {b : List UInt8} (h : (appD b).2 = 0) : appF b = some (appD b).1 ∧ appB (appD b).1 = true := by
  cases hx : appF b with
  | none =>
    exfalso
    unfold appD at h
    rw [hx] at h
    simp only at h
    obtain ⟨y, hy⟩ := appE_zero h
    rw [hx] at hy; cases hy
  | some x =>
    rw [appD_ok hx] at h ⊢
    by_cases hv : appB x = true
    · rw [if_pos hv]; exact ⟨rfl, hv⟩
    · rw [if_neg hv] at h; cases h
theorem rlsD_zero {b : List UInt8} (h : (rlsD b).2 = 0) : rlsF b = some (rlsD b).1 ∧ rlsB (rlsD b).1 = true := by
  cases hx : rlsF b with
  | none =>
    exfalso
    unfold rlsD at h
    rw [hx] at h
    simp only at h
    unfold rlsE at h
    split at h
    · rw [hx] at h; cases h
    · rename_i h2; exact h2 h
  | some x =>
    rw [rlsD_ok hx] at h ⊢
    by_cases hv : rlsB x = true
    · rw [if_pos hv]; exact ⟨rfl, hv⟩
    · rw [if_neg hv] at h; cases h
theorem appD_t (b : List UInt8) : 0 ≤ (appD b).1.t ∧ (appD b).1.t ≤ 1099511627776 := by
  unfold appD
  split
  · rename_i x h
    split
    · rename_i hv
      unfold appB at hv
      simp only [Bool.and_eq_true, decide_eq_true_eq] at hv
      exact hv.2
    · exact ⟨(by show (0 : Int) ≤ 0; decide), (by show (0 : Int) ≤ 1099511627776; decide)⟩
  · exact ⟨(by show (0 : Int) ≤ 0; decide), (by show (0 : Int) ≤ 1099511627776; decide)⟩
theorem rlsD_t (b : List UInt8) : 0 ≤ (rlsD b).1.t ∧ (rlsD b).1.t ≤ 1099511627776 := by
  unfold rlsD
  split
  · rename_i x h
    split
    · rename_i hv
      unfold rlsB at hv
      simp only [Bool.and_eq_true, decide_eq_true_eq] at hv
      exact ⟨hv.2.2.2.2.2.1, hv.2.2.2.2.2.2⟩
    · exact ⟨(by show (0 : Int) ≤ 0; decide), (by show (0 : Int) ≤ 1099511627776; decide)⟩
  · exact ⟨(by show (0 : Int) ≤ 0; decide), (by show (0 : Int) ≤ 1099511627776; decide)⟩
/-- what an encoder returns, where good says that it returns the bytes b -/
def EncQ (good : Prop) (b : List UInt8) (w : World) (e : Ending) (w' : World) : Prop := ∃ A n c E bs, e = .returned (.tuple #[.slice A n c, .int .i64 E]) ∧ Below w.heap.size w w' ∧ Rd w' w'.heap.size 1 A n (bs.map bv) ∧ (good → E = 0 ∧ bs = b)
theorem encQ_of {ls : List (List ByteArray)} {good : Prop} {b : List UInt8} {base : Nat} {w w' : World} {y z : Value} (hb : Below w.heap.size w w') (h : EncV 5 base ls w' y z) (hg : good → docE ls = 0 ∧ encD ls = b) : EncQ good b w (.returned (.tuple #[y, z])) w' := by
  obtain ⟨A, n, c, rfl, rfl, ho, hz⟩ := h
  by_cases h0 : docE ls = 0
  · exact ⟨A, n, c, _, encD ls, rfl, hb, Own.rd (ho h0), fun h => ⟨h0, (hg h).2⟩⟩
  · obtain ⟨rfl, rfl, rfl⟩ := hz h0
    exact ⟨none, 0, 0, _, [], rfl, hb, Rd.nil, fun h => absurd (hg h).1 h0⟩
theorem encQ_no {good : Prop} {b : List UInt8} {w w' : World} {y z : Value} (hb : Below w.heap.size w w') (hy : y = .slice none 0 0) (hz : z = .int .i64 1) (hg : good → False) : EncQ good b w (.returned (.tuple #[y, z])) w' := by
  subst hy hz
  exact ⟨none, 0, 0, 1, [], rfl, hb, Rd.nil, fun h => (hg h).elim⟩
theorem apartA {W w : World} {B n : Nat} {A : Option Addr} {b : List UInt8} (h : All W [.low (.rd B 1 A n (b.map bv)), .kept w w.heap.size]) : Apart (some W.heap.size) [.low (.rd B 1 A n (b.map bv)), .kept w w.heap.size] :=
  ⟨fun g hg => by injection hg with hg; subst hg; exact (h.at_ 0 rfl : _ ∧ B ≤ W.heap.size).2, fun g hg => by injection hg with hg; subst hg; exact (h.at_ 1 rfl : _ ∧ w.heap.size ≤ W.heap.size).2, trivial⟩
theorem apartB {W w : World} {B n g : Nat} {t : TypeId} {cs : List Value} {A : Option Addr} {b : List UInt8} (h : All W [.cells g t cs, .low (.rd B 1 A n (b.map bv)), .kept w w.heap.size]) : Apart (some W.heap.size) [.cells g t cs, .low (.rd B 1 A n (b.map bv)), .kept w w.heap.size] := by
  refine ⟨?_, apartA h.2⟩
  have := Cells.lt h.1
  simp [Res.apart]; omega
set_option maxHeartbeats 6400000 in
theorem walkApart (w : World) (B : Nat) (A : Option Addr) (n c : Nat) (b : List UInt8) (hb : Rd w B 1 A n (b.map bv)) (hnc : n ≤ c) (hcm : c ≤ maxLen) (hB : B ≤ w.heap.size)
    (ht : Lib.TabIs Tryd.prog w "internal/strconv.uint64pow10" .u64 Lib.pow10Tab) :
    Calls Tryd.prog 3 #[.slice A n c] w fun e w' => e = .returned (.bool true) ∧ Below w.heap.size w w' := by
  have hI : All w [.low (.rd B 1 A n (b.map bv)), .kept w w.heap.size] := ⟨⟨hb, hB⟩, ⟨Below.refl _ _, Nat.le_refl _⟩, trivial⟩
  have HT : Hid (∀ W, Below w.heap.size w W → Lib.TabIs Tryd.prog W "internal/strconv.uint64pow10" .u64 Lib.pow10Tab) := Lib.hid (fun W hb => tab_keep ht hb)
  have HDR := Lib.hid (DecodeRel_any w B A n c b hb hnc hcm hB)
  have HDA := Lib.hid (fun W hr hB => DecodeApproval_any W B A n c b hr hnc hcm hB)
  have HRL := Lib.hid (rls_len _ (rlsD_ok' b))
  have HAL := Lib.hid (appC_len _ (appD_32 b))
  have HRO := Lib.hid (rls_one (rlsD b).1)
  have HAO := Lib.hid (appC_one (appD b).1)
  have HER : Hid (∀ W, Below w.heap.size w W → (rlsD b).1.l.size ≤ 140737488355328 → (rlsD b).1.r.size ≤ 140737488355328 → Calls Tryd.prog 7 #[.agg (rlsC (rlsD b).1).toArray] W (EncQ ((rlsD b).2 = 0) b W)) := Lib.hid (fun W hbw z1 z2 => (EncodeRel_any W _ (rlsD_ok' b) z1 z2 (by have := (rlsD_t b).1; omega) (by have := (rlsD_t b).2; omega) (tab_keep ht hbw)).mono (by
    rintro e w' ⟨y, z, rfl, hb', h1, h2⟩
    cases hv : rlsB (rlsD b).1 with
    | true => exact encQ_of hb' (h1 hv) (fun h => rlsF_doc (rlsD_zero h).1)
    | false =>
      obtain ⟨e1, e2⟩ := h2 hv
      exact encQ_no hb' e1 e2 (fun h => by rw [(rlsD_zero h).2] at hv; cases hv)))
  have HEA : Hid (∀ W, Below w.heap.size w W → Calls Tryd.prog 8 #[.agg (appC (appD b).1).toArray] W (EncQ ((appD b).2 = 0) b W)) := Lib.hid (fun W hbw => (EncodeApproval_any W _ (appD_32 b) (by have := (appD_t b).1; omega) (by have := (appD_t b).2; omega) (tab_keep ht hbw)).mono (by
    rintro e w' ⟨y, z, rfl, hb', h1, h2⟩
    cases hv : appB (appD b).1 with
    | true => exact encQ_of hb' (h1 hv) (fun h => appF_doc (appD_zero h).1)
    | false =>
      obtain ⟨e1, e2⟩ := h2 hv
      exact encQ_no hb' e1 e2 (fun h => by rw [(appD_zero h).2] at hv; cases hv)))
  have HNO : Hid ((rlsD b).2 = 0 → (appD b).2 = 0 → False) := Lib.hid (fun h h' => apart_F (appD_zero h').1 (rlsD_zero h).1)
  have hzr := zero_rls
  have hza := zero_app
  have HZL := Lib.hid rlsZ_len
  clear hb hnc hcm hB ht
  obtain ⟨y, hy⟩ : ∃ y, y = (rlsD b).1 := ⟨_, rfl⟩
  obtain ⟨e0, he⟩ : ∃ e, e = (rlsD b).2 := ⟨_, rfl⟩
  obtain ⟨x, hx⟩ : ∃ x, x = (appD b).1 := ⟨_, rfl⟩
  obtain ⟨f0, hf⟩ : ∃ f, f = (appD b).2 := ⟨_, rfl⟩
  rw [← hy, ← he] at HDR HER
  rw [← hx, ← hf] at HDA HEA
  rw [← hy] at HRL HRO
  rw [← hx] at HAL HAO
  rw [← he, ← hf] at HNO
  clear hy he hx hf
  go_enter Tryd.func3, Tryd.ntmps3
  cases d1 : decide ((100000 : Int) < (n : Int)) with
  | true =>
    go_wp2_with fail
    go_ret
    exact ⟨rfl, (hI.at_ 1 rfl : _ ∧ _).1⟩
  | false =>
  go_upto_region 4 with (first
    | (go_at_call 5; refine HDR.out.mono ?_; clear HDR; rintro e w1 ⟨rfl, hb1, z1, z2⟩; have hJ1 := (hI.call hb1).new (l := rlsZ) rlsZ.toArray 26 (g := w1.heap.size) rfl rfl; have hap1 := apartA (hI.call hb1))
    | (refine wl_store_at hJ1 0 rfl 26 (.tmp 3) (.tmp 17) rfl w1.heap.size _ _ (rlsC y) rfl rfl rfl (by rw [HRL.out]; exact HZL.out.symm) (by rw [HRL.out]; kernel_rfl) HRO.out hap1 ?_; intro w2 hJ2 hs2))
  simp only [List.set_cons_zero] at hJ2
  clear hI hJ1 hap1 hs2 d1 hb1
  obtain ⟨g3, hg3⟩ : ∃ g, g = w1.heap.size := ⟨_, rfl⟩
  rw [← hg3] at hJ2 ⊢
  clear hg3
  have HDA2 := Lib.hid (HDA.out w2 (hJ2.at_ 1 rfl : _ ∧ _).1 (hJ2.at_ 1 rfl : _ ∧ _).2)
  go_upto_region 5 with (first
    | (go_at_call 6; refine HDA2.out.mono ?_; clear HDA2; rintro e w3 ⟨rfl, hb3⟩; have hJ3 := (hJ2.call hb3).new (l := appZ) appZ.toArray 31 (g := w3.heap.size) rfl rfl; have hap3 := apartB (hJ2.call hb3))
    | (refine wl_store_at hJ3 0 rfl 31 (.tmp 5) (.tmp 22) rfl w3.heap.size _ _ (appC x) rfl rfl rfl (by rw [HAL.out]; rfl) (by rw [HAL.out]; kernel_rfl) HAO.out hap3 ?_; intro w4 hJ4 hs4))
  simp only [List.set_cons_zero] at hJ4
  clear hJ2 hJ3 hap3 hs4 hb3 hzr hza
  obtain ⟨g5, hg5⟩ : ∃ g, g = w3.heap.size := ⟨_, rfl⟩
  rw [← hg5] at hJ4 ⊢
  clear hg5
  have HER2 := Lib.hid (fun W hb => HER.out W hb z1 z2)
  clear HER z1 z2
  by_cases q1 : e0 = 0
  · have q2 : f0 ≠ 0 := fun h => HNO.out q1 h
    have d2 : (f0 == 0) = false := by simpa using q2
    have d3 : (f0 != 0) = true := by simpa using q2
    subst q1
    go_upto_region 7 with (fail)
    go_upto_region 8 with (first
      | (refine wl_load_any rfl 26 (.tmp 3) rfl ⟨g3, 0, none⟩ rfl (rlsC y) _ (cell_all (hJ4.at_ 1 rfl)) Tryd.underlying26 rfl (by rw [HRL.out]; kernel_rfl) ?_)
      | (go_at_call 7; refine (HER2.out _ (hJ4.at_ 3 rfl : _ ∧ _).1).mono ?_; rintro e w5 ⟨A1, n1, c1, E1, b1, rfl, hb5, hr5, hg5⟩; have hJ5 := (hJ4.call hb5).cons (r := .low (.rd w5.heap.size 1 A1 n1 (b1.map bv))) ⟨hr5, Nat.le_refl _⟩))
    have HG5 := Lib.hid hg5
    clear hJ4 hb5 hr5 hg5
    go_upto_region 9 with (first
      | (refine wl_load_any rfl 31 (.tmp 5) rfl ⟨g5, 0, none⟩ rfl (appC x) _ (cell_all (hJ5.at_ 1 rfl)) Tryd.underlying31 rfl (by rw [HAL.out]; kernel_rfl) ?_)
      | (go_at_call 8; refine (HEA.out _ (hJ5.at_ 4 rfl : _ ∧ _).1).mono ?_; rintro e w6 ⟨A2, n2, c2, E2, b2, rfl, hb6, hr6, hg6⟩; have hJ6 := (hJ5.call hb6).cons (r := .low (.rd w6.heap.size 1 A2 n2 (b2.map bv))) ⟨hr6, Nat.le_refl _⟩))
    have HG6 := Lib.hid hg6
    clear hJ5 hb6 hr6 hg6
    obtain ⟨rfl, rfl⟩ := HG5.out (by first | trivial | rfl)
    go_wp2_with (go_at_call 9; refine (awake_any _ (HT.out _ (hJ6.at_ 5 rfl : _ ∧ _).1)).mono ?_; rintro e w7 ⟨rfl, hb7⟩; have hJ7 := hJ6.call hb7; have v1 := run_conv (P := Tryd.prog) w7 22 9 5 Tryd.underlying22 Tryd.underlying5 Tryd.underlying9 (c := c1) (l := b1) (hJ7.at_ 1 rfl : _ ∧ _).1; have v2 := run_conv (P := Tryd.prog) w7 22 9 5 Tryd.underlying22 Tryd.underlying5 Tryd.underlying9 (c := c) (l := b1) (hJ7.at_ 4 rfl : _ ∧ _).1)
    go_ret
    exact ⟨rfl, (hJ7.at_ 5 rfl : _ ∧ _).1⟩
  · have d0 : (e0 == 0) = false := by simpa using q1
    have d1 : (e0 != 0) = true := by simpa using q1
    have HQ1 := Lib.hid q1
    clear q1
    go_upto_region 7 with (fail)
    by_cases q2 : f0 = 0
    · subst q2
      go_upto_region 8 with (first
        | (refine wl_load_any rfl 26 (.tmp 3) rfl ⟨g3, 0, none⟩ rfl (rlsC y) _ (cell_all (hJ4.at_ 1 rfl)) Tryd.underlying26 rfl (by rw [HRL.out]; kernel_rfl) ?_)
        | (go_at_call 7; refine (HER2.out _ (hJ4.at_ 3 rfl : _ ∧ _).1).mono ?_; rintro e w5 ⟨A1, n1, c1, E1, b1, rfl, hb5, hr5, hg5⟩; have hJ5 := (hJ4.call hb5).cons (r := .low (.rd w5.heap.size 1 A1 n1 (b1.map bv))) ⟨hr5, Nat.le_refl _⟩))
      have HG5 := Lib.hid hg5
      clear hJ4 hb5 hr5 hg5
      go_upto_region 9 with (first
        | (refine wl_load_any rfl 31 (.tmp 5) rfl ⟨g5, 0, none⟩ rfl (appC x) _ (cell_all (hJ5.at_ 1 rfl)) Tryd.underlying31 rfl (by rw [HAL.out]; kernel_rfl) ?_)
        | (go_at_call 8; refine (HEA.out _ (hJ5.at_ 4 rfl : _ ∧ _).1).mono ?_; rintro e w6 ⟨A2, n2, c2, E2, b2, rfl, hb6, hr6, hg6⟩; have hJ6 := (hJ5.call hb6).cons (r := .low (.rd w6.heap.size 1 A2 n2 (b2.map bv))) ⟨hr6, Nat.le_refl _⟩))
      have HG6 := Lib.hid hg6
      clear hJ5 hb6 hr6 hg6
      obtain ⟨rfl, rfl⟩ := HG6.out (by first | trivial | rfl)
      go_wp2_with (go_at_call 9; refine (awake_any _ (HT.out _ (hJ6.at_ 5 rfl : _ ∧ _).1)).mono ?_; rintro e w7 ⟨rfl, hb7⟩; have hJ7 := hJ6.call hb7; have v1 := run_conv (P := Tryd.prog) w7 22 9 5 Tryd.underlying22 Tryd.underlying5 Tryd.underlying9 (c := c2) (l := b2) (hJ7.at_ 0 rfl : _ ∧ _).1; have v2 := run_conv (P := Tryd.prog) w7 22 9 5 Tryd.underlying22 Tryd.underlying5 Tryd.underlying9 (c := c) (l := b2) (hJ7.at_ 4 rfl : _ ∧ _).1)
      go_ret
      exact ⟨rfl, (hJ7.at_ 5 rfl : _ ∧ _).1⟩
    · have d2 : (f0 == 0) = false := by simpa using q2
      have d3 : (f0 != 0) = true := by simpa using q2
      have HQ2 := Lib.hid q2
      clear q2
      go_upto_region 8 with (first
        | (refine wl_load_any rfl 26 (.tmp 3) rfl ⟨g3, 0, none⟩ rfl (rlsC y) _ (cell_all (hJ4.at_ 1 rfl)) Tryd.underlying26 rfl (by rw [HRL.out]; kernel_rfl) ?_)
        | (go_at_call 7; refine (HER2.out _ (hJ4.at_ 3 rfl : _ ∧ _).1).mono ?_; rintro e w5 ⟨A1, n1, c1, E1, b1, rfl, hb5, hr5, hg5⟩; have hJ5 := (hJ4.call hb5).cons (r := .low (.rd w5.heap.size 1 A1 n1 (b1.map bv))) ⟨hr5, Nat.le_refl _⟩))
      have HG5 := Lib.hid hg5
      clear hJ4 hb5 hr5 hg5
      go_upto_region 9 with (first
        | (refine wl_load_any rfl 31 (.tmp 5) rfl ⟨g5, 0, none⟩ rfl (appC x) _ (cell_all (hJ5.at_ 1 rfl)) Tryd.underlying31 rfl (by rw [HAL.out]; kernel_rfl) ?_)
        | (go_at_call 8; refine (HEA.out _ (hJ5.at_ 4 rfl : _ ∧ _).1).mono ?_; rintro e w6 ⟨A2, n2, c2, E2, b2, rfl, hb6, hr6, hg6⟩; have hJ6 := (hJ5.call hb6).cons (r := .low (.rd w6.heap.size 1 A2 n2 (b2.map bv))) ⟨hr6, Nat.le_refl _⟩))
      have HG6 := Lib.hid hg6
      clear hJ5 hb6 hr6 hg6
      go_wp2_with (go_at_call 9; refine (awake_any _ (HT.out _ (hJ6.at_ 5 rfl : _ ∧ _).1)).mono ?_; rintro e w7 ⟨rfl, hb7⟩; have hJ7 := hJ6.call hb7)
      go_ret
      exact ⟨rfl, (hJ7.at_ 5 rfl : _ ∧ _).1⟩
end Go.Proofs.YthlfafkakijjfaaDoor


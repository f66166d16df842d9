/- Inner nodes of Merkle trees: both sides. -/
import Derived.Test.YtahfhlpolhibdaaSto16
set_option linter.unusedSimpArgs false
set_option linter.unusedVariables false
set_option maxRecDepth 100000
namespace Go.Adm
open Go Go.RowKit
/-- an inner node -/
def nodeS (a b : List UInt8) : List UInt8 := shaS (1 :: (a ++ b))
theorem nodeS_len (a b : List UInt8) : (nodeS a b).length = 32 := shaS_len _
end Go.Adm
namespace Go.Proofs.Ytahfhlpolhibdaa
open Go Go.RowKit Go.Adm

set_option maxHeartbeats 3200000 in
theorem Node_any (w : World) (a b : List UInt8) (ha : a.length = 32) (hb : b.length = 32) :
    Calls Try.prog 56 #[.agg (a.map bv).toArray, .agg (b.map bv).toArray] w fun e w' => e = .returned (.agg ((nodeS a b).map bv).toArray) ∧ Below w.heap.size w w' := by
  have hR : All w [.kept w w.heap.size] := ⟨⟨Below.refl _ _, Nat.le_refl _⟩, trivial⟩
  have HA := Lib.hid ha
  have HB := Lib.hid hb
  have hzr := zero_dg
  have HS : Hid (shaS (([1] ++ a) ++ b) = nodeS a b) := Lib.hid (by simp [nodeS])
  have HN := Lib.hid (nodeS_len a b)
  clear ha hb
  go_enter Try.func56, Try.ntmps56
  have hI := ((hR.new (a.map bv).toArray 31 rfl rfl).new (b.map bv).toArray 31 (g := w.heap.size + 1) (by simp) rfl).new (z32.map bv).toArray 31 (g := w.heap.size + 1 + 1) (by simp) rfl
  go_upto_region 1 with (fail)
  refine wp_genP (Pr := fun W => All W _ ∧ W.heap.size = w.heap.size + 1 + 1 + 1) ⟨hI, by simp⟩ ?_
  rintro W1 ⟨hW1, hz1⟩
  clear hI hR
  obtain ⟨gq, hgq⟩ : ∃ gq, gq = w.heap.size + 1 + 1 + 1 := ⟨_, rfl⟩
  rw [← hgq] at hz1
  have hO1 : All (W1.alloc (.cells #[.int .u8 1] 5)) (.own gq 5 1 (some ⟨gq, 0, none⟩) 1 1 ([1].map bv) :: _) := ⟨by rw [← hz1]; exact Go.Adm.Own.lit W1 #[.int .u8 1] 1 (Nat.le_refl _) (by decide) rfl, hW1.alloc _⟩
  have hrdA : Rd (W1.alloc (.cells #[.int .u8 1] 5)) gq 1 (some ⟨w.heap.size, 0, none⟩) 32 (a.map bv) := ⟨by rw [List.length_map, HA.out], fun _ => ⟨_, rfl, by show w.heap.size < gq; omega, Cells.sub (hO1.at_ 3 rfl) 0 (fun j u h => by rwa [Nat.zero_add])⟩⟩
  have hap : ∀ q, gq ≤ q → Apart (some q) [.cells (w.heap.size + 1 + 1) 31 (z32.map bv), .cells (w.heap.size + 1) 31 (b.map bv), .cells w.heap.size 31 (a.map bv), .kept w w.heap.size] := fun q hq => ⟨by simp [Res.apart]; omega, by simp [Res.apart]; omega, by simp [Res.apart]; omega, by simp [Res.apart]; omega, trivial⟩
  have HAP := Lib.hid hap
  have hgs : gq ≤ (W1.alloc (.cells #[.int .u8 1] 5)).heap.size := by rw [← hz1]; simp
  have hgw : w.heap.size + 1 + 1 < gq := by omega
  clear hap hW1 hgq
  go_upto_region 2 with (at_builtin; refine wl_app_at el_b8 hO1 0 rfl (.tmp 6) (.tmp 7) rfl gq _ _ _ _ rfl rfl gq _ 32 32 (a.map bv) rfl hrdA (bv_one _) (by decide) hgs (fun q hq _ => HAP.out q hq) ?_; intro A2 c2 W2 hW2 hs2; simp only [List.set_cons_zero] at hW2)
  have hrdB : Rd W2 gq 1 (some ⟨w.heap.size + 1, 0, none⟩) 32 (b.map bv) := ⟨by rw [List.length_map, HB.out], fun _ => ⟨_, rfl, by show w.heap.size + 1 < gq; omega, Cells.sub (hW2.at_ 2 rfl) 0 (fun j u h => by rwa [Nat.zero_add])⟩⟩
  have hgs2 : gq ≤ W2.heap.size := Nat.le_trans hgs hs2
  clear hO1 hrdA hs2 hgs
  go_wp2_with (at_builtin; refine wl_app_at el_b8 hW2 0 rfl (.tmp 9) (.tmp 10) rfl gq _ _ _ _ rfl rfl gq _ 32 32 (b.map bv) rfl hrdB (bv_one _) (by decide) hgs2 (fun q hq _ => HAP.out q hq) ?_; intro A3 c3 W3 hW3 hs3; simp only [List.set_cons_zero] at hW3)
  have hO3 : Go.Adm.Own W3 gq 5 1 A3 (1 + 32 + 32) c3 ((([1] ++ a) ++ b).map bv) := (hW3.at_ 0 rfl : Go.Adm.Own W3 gq 5 1 A3 _ c3 _).cast rfl (by simp)
  refine (ShaSum_any W3 W3.heap.size A3 _ c3 (([1] ++ a) ++ b) hO3.rd (Nat.le_refl _) (by decide) hO3.cap.1 hO3.cap.2).mono ?_
  rintro e w5 ⟨rfl, hb5⟩
  rw [HS.out]
  have hW5 := hW3.call hb5
  clear hW3 hO3 hb5 hW2 hrdB HS
  generalize hr : nodeS a b = r at *
  have HR := Lib.hid hr
  clear hr
  clear hz1
  go_wp2_with (refine wl_store_at hW5 1 rfl 31 (.tmp 4) (.tmp 12) rfl (w.heap.size + 1 + 1) _ _ (r.map bv) rfl rfl rfl (by rw [List.length_map, HN.out]; rfl) (by rw [List.length_map, HN.out]; kernel_rfl) (bv_one _) ⟨fun g e => by { injection e with e; left; omega }, by simp [Res.apart], by simp [Res.apart]; omega, by simp [Res.apart]; omega, trivial⟩ ?_; intro w9 hI9 hs9)
  refine bodyPost_ret (v := .agg (r.map bv).toArray) ?_ rfl ⟨by rw [HR.out], (hI9.at_ 4 rfl : _ ∧ _).1⟩
  exact results_cell_row rfl _ _ (w.heap.size + 1 + 1) 31 (r.map bv).toArray (0, 0) _ rfl (hI9.at_ 1 rfl) Try.underlying31 rfl (by rw [List.size_toArray, List.length_map, HN.out]; kernel_rfl)

set_option maxHeartbeats 3200000 in
theorem refNode_any (w : World) (a b : List UInt8) (ha : a.length = 32) (hb : b.length = 32) :
    Calls Try.prog 57 #[.agg (a.map bv).toArray, .agg (b.map bv).toArray] w fun e w' => e = .returned (.agg ((nodeS a b).map bv).toArray) ∧ Below w.heap.size w w' := by
  have hR : All w [.kept w w.heap.size] := ⟨⟨Below.refl _ _, Nat.le_refl _⟩, trivial⟩
  have HA := Lib.hid ha
  have HB := Lib.hid hb
  have hzr := zero_dg
  have HS : Hid (shaS ([1] ++ a ++ b) = nodeS a b) := Lib.hid (by simp [nodeS])
  have HN := Lib.hid (nodeS_len a b)
  clear ha hb
  go_enter Try.func57, Try.ntmps57
  have hI := ((hR.new (a.map bv).toArray 31 rfl rfl).new (b.map bv).toArray 31 (g := w.heap.size + 1) (by simp) rfl).new (z32.map bv).toArray 31 (g := w.heap.size + 1 + 1) (by simp) rfl
  go_upto_region 1 with (fail)
  refine wp_genP (Pr := fun W => All W _ ∧ W.heap.size = w.heap.size + 1 + 1 + 1) ⟨hI, by simp⟩ ?_
  rintro W1 ⟨hW1, hz1⟩
  clear hI hR
  obtain ⟨gq, hgq⟩ : ∃ gq, gq = w.heap.size + 1 + 1 + 1 := ⟨_, rfl⟩
  rw [← hgq] at hz1
  have hJ0 : All (W1.alloc (.cells #[.int .u8 1] 5)) (.own gq 5 1 (some ⟨gq, 0, none⟩) 1 1 ([1].map bv) :: _) := ⟨by rw [← hz1]; exact Go.Adm.Own.lit W1 #[.int .u8 1] 1 (Nat.le_refl _) (by decide) rfl, hW1.alloc _⟩
  have hap : ∀ q, gq ≤ q → Apart (some q) [.cells (w.heap.size + 1 + 1) 31 (z32.map bv), .cells (w.heap.size + 1) 31 (b.map bv), .cells w.heap.size 31 (a.map bv), .kept w w.heap.size] := fun q hq => ⟨by simp [Res.apart]; omega, by simp [Res.apart]; omega, by simp [Res.apart]; omega, by simp [Res.apart]; omega, trivial⟩
  have HAP := Lib.hid hap
  have hgs : gq ≤ (W1.alloc (.cells #[.int .u8 1] 5)).heap.size := by rw [← hz1]; simp
  have hgw : w.heap.size + 1 + 1 < gq := by omega
  clear hap hW1 hgq
  go_wp2_with fail
  clear hz1
  go_loopw [5, 6] (fun p i wr => ∃ (k : Nat) (A' : Option Addr) (c' : Nat), k ≤ 32 ∧ i = .int .i64 k ∧ p = .slice A' (1 + k) c' ∧ gq ≤ wr.heap.size ∧ All wr (.own gq 5 1 A' (1 + k) c' (([1] ++ a.take k).map bv) :: [.cells (w.heap.size + 1 + 1) 31 (z32.map bv), .cells (w.heap.size + 1) 31 (b.map bv), .cells w.heap.size 31 (a.map bv), .kept w w.heap.size])) (fun _ i _ => 32 - (intOf i).toNat)
  case atStart => exact ⟨0, _, _, by omega, rfl, rfl, hgs, hJ0⟩
  case round =>
    clear hJ0 hgs
    obtain ⟨k, A', c', hk, rfl, rfl, hgs, hI⟩ := hrel
    by_cases hlt : k < 32
    · have hkl : k < a.length := by rw [HA.out]; exact hlt
      have q1 : wr.cell? ⟨w.heap.size, k, none⟩ = some (bv a[k]) := by
        rw [Cells.cell (hI.at_ 3 rfl) (by rw [List.length_map]; exact hkl), List.getElem_map]
      have HT : Hid (a.take (k + 1) = a.take k ++ [a[k]]) := Lib.hid (List.take_succ_eq_append_getElem hkl)
      generalize a[k] = x at *
      have q2 : wr.cell? ⟨w.heap.size, k, none⟩ = some (.int .u8 x.toNat) := q1
      have d1 : decide ((k : Int) < 32) = true := by simp; omega
      have d2 : decide (k < 32) = true := by simp; omega
      have wk0 : (0 : Int) ≤ (k : Int) := by omega
      have wk2 : ((k : Int)).toNat = k := by omega
      clear hkl q1
      go_wp2_with (at_builtin; refine wl_app_at el_b8 (hI.alloc _) 0 rfl (.tmp 13) (.tmp 17) rfl gq _ _ _ _ rfl rfl (wr.heap.size + 1) _ 1 1 [.int .u8 x.toNat] rfl (Rd.lit wr _ _ 1 rfl) (by intro u hu; simp only [List.mem_singleton] at hu; subst hu; rfl) (by omega) (by simp; omega) (fun q hq _ => HAP.out q hq) ?_; intro A5 c5 w5 hI5 hs5; simp only [List.set_cons_zero] at hI5)
      have hs6 : gq ≤ w5.heap.size := by have : wr.heap.size ≤ (wr.alloc (.cells #[.int .u8 x.toNat] 5)).heap.size := by simp
                                         omega
      refine ⟨⟨k + 1, A5, c5, by omega, by go_num, slice_len _ _ (by omega), hs6, (hI5.at_ 0 rfl : Go.Adm.Own w5 gq 5 1 A5 _ c5 _).cast (by omega) ?_, hI5.2⟩, by simp [intOf]; omega⟩
      rw [HT.out]
      simp [bv]
    · have hgek : 32 ≤ k := by omega
      have d1 : decide ((k : Int) < 32) = false := by simp; omega
      have d2 : decide (k < 32) = false := by simp; omega
      have ht : a.take k = a := List.take_of_length_le (by rw [HA.out]; exact hgek)
      rw [ht] at hI
      clear ht hlt
      have hJ0 : All wr (.own gq 5 1 A' (1 + k + 0) c' (([1] ++ a ++ b.take 0).map bv) :: _) := ⟨(hI.at_ 0 rfl : Go.Adm.Own wr gq 5 1 A' (1 + k) c' _).cast rfl (by simp), hI.2⟩
      clear hI
      go_wp2_with fail
      clear d1 d2
      go_loopw [5, 7] (fun p i wr => ∃ (j : Nat) (A' : Option Addr) (c' : Nat), j ≤ 32 ∧ i = .int .i64 j ∧ p = .slice A' (1 + k + j) c' ∧ gq ≤ wr.heap.size ∧ All wr (.own gq 5 1 A' (1 + k + j) c' (([1] ++ a ++ b.take j).map bv) :: [.cells (w.heap.size + 1 + 1) 31 (z32.map bv), .cells (w.heap.size + 1) 31 (b.map bv), .cells w.heap.size 31 (a.map bv), .kept w w.heap.size])) (fun _ i _ => 32 - (intOf i).toNat)
      case atStart => exact ⟨0, _, _, by omega, rfl, rfl, hgs, hJ0⟩
      case round =>
        clear hJ0 hgs
        obtain ⟨j, A', c', hj, rfl, rfl, hgs, hI⟩ := hrel
        by_cases hlt : j < 32
        · have hkl : j < b.length := by rw [HB.out]; exact hlt
          have q1 : wr.cell? ⟨w.heap.size + 1, j, none⟩ = some (bv b[j]) := by
            rw [Cells.cell (hI.at_ 2 rfl) (by rw [List.length_map]; exact hkl), List.getElem_map]
          have HT : Hid (b.take (j + 1) = b.take j ++ [b[j]]) := Lib.hid (List.take_succ_eq_append_getElem hkl)
          generalize b[j] = x at *
          have q2 : wr.cell? ⟨w.heap.size + 1, j, none⟩ = some (.int .u8 x.toNat) := q1
          have d1 : decide ((j : Int) < 32) = true := by simp; omega
          have d2 : decide (j < 32) = true := by simp; omega
          have wk0 : (0 : Int) ≤ (j : Int) := by omega
          have wk2 : ((j : Int)).toNat = j := by omega
          clear hkl q1
          go_wp2_with (at_builtin; refine wl_app_at el_b8 (hI.alloc _) 0 rfl (.tmp 23) (.tmp 27) rfl gq _ _ _ _ rfl rfl (wr.heap.size + 1) _ 1 1 [.int .u8 x.toNat] rfl (Rd.lit wr _ _ 1 rfl) (by intro u hu; simp only [List.mem_singleton] at hu; subst hu; rfl) (by omega) (by simp; omega) (fun q hq _ => HAP.out q hq) ?_; intro A5 c5 w5 hI5 hs5; simp only [List.set_cons_zero] at hI5)
          have hs6 : gq ≤ w5.heap.size := by have : wr.heap.size ≤ (wr.alloc (.cells #[.int .u8 x.toNat] 5)).heap.size := by simp
                                             omega
          refine ⟨⟨j + 1, A5, c5, by omega, by go_num, slice_len _ _ (by omega), hs6, (hI5.at_ 0 rfl : Go.Adm.Own w5 gq 5 1 A5 _ c5 _).cast (by omega) ?_, hI5.2⟩, by simp [intOf]; omega⟩
          rw [HT.out]
          simp [bv]
        · have hgej : 32 ≤ j := by omega
          have d1 : decide ((j : Int) < 32) = false := by simp; omega
          have d2 : decide (j < 32) = false := by simp; omega
          have ht : b.take j = b := List.take_of_length_le (by rw [HB.out]; exact hgej)
          rw [ht] at hI
          clear ht hlt
          go_wp2_with fail
          have hO3 : Go.Adm.Own wr gq 5 1 A' (1 + k + j) c' (([1] ++ a ++ b).map bv) := (hI.at_ 0 rfl : Go.Adm.Own wr gq 5 1 A' _ c' _).cast rfl (by simp)
          refine (refSum_any wr wr.heap.size A' _ c' ([1] ++ a ++ b) hO3.rd (Nat.le_refl _) (by omega)).mono ?_
          rintro e w5 ⟨rfl, hb5⟩
          rw [HS.out]
          have hW5 := hI.call hb5
          clear hI hO3 hb5 HS
          generalize hr : nodeS a b = r at *
          have HR := Lib.hid hr
          clear hr
          go_wp2_with (refine wl_store_at hW5 1 rfl 31 (.tmp 4) (.tmp 30) rfl (w.heap.size + 1 + 1) _ _ (r.map bv) rfl rfl rfl (by rw [List.length_map, HN.out]; rfl) (by rw [List.length_map, HN.out]; kernel_rfl) (bv_one _) ⟨fun g e => by { injection e with e; left; omega }, by simp [Res.apart], by simp [Res.apart]; omega, by simp [Res.apart]; omega, trivial⟩ ?_; intro w9 hI9 hs9)
          refine bodyPost_ret (v := .agg (r.map bv).toArray) ?_ rfl ⟨by rw [HR.out], (hI9.at_ 4 rfl : _ ∧ _).1⟩
          exact results_cell_row rfl _ _ (w.heap.size + 1 + 1) 31 (r.map bv).toArray (0, 0) _ rfl (hI9.at_ 1 rfl) Try.underlying31 rfl (by rw [List.size_toArray, List.length_map, HN.out]; kernel_rfl)
end Go.Proofs.Ytahfhlpolhibdaa

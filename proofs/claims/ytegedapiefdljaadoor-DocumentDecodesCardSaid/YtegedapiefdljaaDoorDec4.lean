/- The law DocumentBack. -/
import Derived.Test.YtegedapiefdljaaDoorDec3
import Derived.Test.YtegedapiefdljaaDoorDecQ
import Derived.Test.YtegedapiefdljaaDoorDoc6
set_option linter.unusedSimpArgs false
set_option linter.unusedVariables false
set_option maxRecDepth 100000
namespace Go.Adm
open Go Go.RowKit
theorem decR_doc {ls : List (List ByteArray)} (h : docE ls = 0) : decR (encD ls) = (ls, 0) := by
  obtain ⟨h1, h2, h3⟩ := docE_zero h
  unfold decR
  rw [if_neg h3, decO_doc h2]
  exact if_neg h1
theorem decR_yes {b : List UInt8} (h : (decR b).2 = 0) : docE (decR b).1 = 0 ∧ encD (decR b).1 = b := by
  unfold decR at h ⊢
  split
  · rename_i h1; rw [if_pos h1] at h; cases h
  · rename_i h1
    rw [if_neg h1] at h
    cases hd : decO b with
    | none => rw [hd] at h; cases h
    | some ls =>
      rw [hd] at h
      obtain ⟨e1, e2⟩ := decO_enc hd
      by_cases h2 : 1000 < ls.length
      · simp only [if_pos h2] at h; cases h
      · simp only [if_neg h2]
        exact ⟨docE_ok h2 e2 (by rw [e1]; exact h1), e1⟩
theorem decR_no {b : List UInt8} (h : (decR b).2 ≠ 0) : (decR b).1 = [] := by
  unfold decR at h ⊢
  split
  · rfl
  · rename_i h1
    rw [if_neg h1] at h
    cases hd : decO b with
    | none => rfl
    | some ls =>
      rw [hd] at h
      by_cases h2 : 1000 < ls.length
      · simp only [if_pos h2]
      · simp only [if_neg h2] at h
        exact absurd rfl h
theorem decR_len (b : List UInt8) : (decR b).1.length ≤ 1000 := by
  unfold decR
  split
  · simp
  · cases decO b with
    | none => simp
    | some ls =>
      by_cases h2 : 1000 < ls.length
      · simp only [if_pos h2]; simp
      · simp only [if_neg h2]; omega
end Go.Adm
namespace Go.Proofs.YtegedapiefdljaaDoor
open Go Go.RowKit Go.Adm

set_option maxHeartbeats 3200000 in
/-- the second half: what is decoded is encoded again -/
theorem walkBack (w : World) (A : Option Addr) (n c : Nat) (A' : Option Addr) (n' c' : Nat) (ls : List (List ByteArray)) (b : List UInt8) (ha : Lines w w.heap.size A n ls) (hb : Rd w w.heap.size 1 A' n' (b.map bv)) (hnc : n' ≤ c') (hcm : c' ≤ maxLen) :
    Calls Tryd.prog 3 #[.slice A n c, .slice A' n' c'] w fun e w' => e = .returned (.bool true) ∧ Below w.heap.size w w' := by
  have HA := Lib.hid ha
  have HB := Lib.hid hb
  clear ha hb
  go_enter Tryd.func3, Tryd.ntmps3
  go_wp2_with fail
  refine (light_any _ w.heap.size _ _ _ ls HA.out).mono ?_
  rintro e w1 ⟨bl, rfl, hlb, rfl⟩
  cases bl
  · go_wp2
    go_ret
    exact ⟨rfl, Below.refl _ _⟩
  have hn1 : n ≤ 1200 := by rw [← HA.out.len]; exact (hlb rfl).1
  clear hlb
  by_cases hbig : 100000 < n'
  · go_wp2
    go_ret
    exact ⟨rfl, Below.refl _ _⟩
  go_wp2_with fail
  refine (Encode_any _ w.heap.size _ _ _ ls HA.out (Nat.le_refl _)).mono ?_
  rintro e w1 ⟨A1, m1, c1, rfl, hb1, hy, hno⟩
  by_cases he : docE ls = 0
  · have hown := hy he
    have hcap := hown.cap
    have hs1 := hb1.size
    have HO := Lib.hid hown.rd
    have HDR : Hid (decR (encD ls) = (ls, 0)) := Lib.hid (decR_doc he)
    rw [he]
    clear hy hno he hown
    go_wp2_with fail
    refine (Decode_any w1 w1.heap.size A1 m1 c1 (encD ls) HO.out hcap.1 hcap.2 (Nat.le_refl _)).mono ?_
    rintro e w2 ⟨A2, m2, c2, rfl, hl2, q2, q3, hb2⟩
    rw [HDR.out] at hl2 ⊢
    have hm2 : n = m2 := HA.out.len.symm.trans hl2.len
    subst hm2
    have hs2 := hb2.size
    have hB2 : Below w.heap.size w w2 := hb1.trans (hb2.mono hs1)
    have HL2 : Hid (Lines w2 w2.heap.size A2 n ls) := Lib.hid hl2
    clear hl2 hb1 hb2
    go_wp2_with fail
    refine (SameLines_true w2 w2.heap.size A2 A n c2 c ls HL2.out ((HA.out.below hB2 (Nat.le_refl _)).mono hB2.size) (Nat.le_refl _) (by omega)).mono ?_
    rintro e V ⟨rfl, hb3⟩
    have hbV : Below w.heap.size w V := hB2.trans (hb3.mono hB2.size)
    have hsV := hbV.size
    clear hb3 hB2
    go_wp2_with fail
    refine (Decode_any V w.heap.size A' n' c' b (HB.out.below hbV (Nat.le_refl _)) hnc hcm hsV).mono ?_
    rintro e w4 ⟨A4, m4, c4, rfl, hl4, q4, q5, hb4⟩
    have hs4 := hb4.size
    have hB4 : Below w.heap.size w w4 := hbV.trans (hb4.mono hsV)
    have HL4 := Lib.hid hl4
    by_cases h0 : (decR b).2 = 0
    · obtain ⟨hd, hx⟩ := decR_yes h0
      rw [h0]
      have HD := Lib.hid hd
      have HX := Lib.hid hx
      clear hd hx hl4 h0
      go_wp2_with fail
      refine (Encode_any w4 w4.heap.size A4 m4 c4 (decR b).1 HL4.out (Nat.le_refl _)).mono ?_
      rintro e w5 ⟨A5, m5, c5, rfl, hb5, hy5, hz5⟩
      have hown5 := hy5 HD.out
      rw [HX.out] at hown5
      rw [HD.out]
      have hs5 := hb5.size
      have HO5 := Lib.hid hown5.rd
      clear hown5 hy5 hz5
      go_wp2_with fail
      refine (awake_any w5).mono ?_
      rintro e w6 ⟨rfl, hb6⟩
      have hs6 := hb6.size
      have hB6 : Below w.heap.size w w6 := (hB4.trans (hb5.mono (by omega))).trans (hb6.mono (by omega))
      have cv1 := run_conv (P := Tryd.prog) w6 23 9 5 el_u8.ht Tryd.underlying5 Tryd.underlying9 (c := c5) (HO5.out.below hb6 (Nat.le_refl _))
      have cv2 := run_conv (P := Tryd.prog) w6 23 9 5 el_u8.ht Tryd.underlying5 Tryd.underlying9 (c := c') (HB.out.below hB6 (Nat.le_refl _))
      clear hb4 hb5 hb6
      go_wp2
      go_ret
      exact ⟨by simp, hB6⟩
    · have e1 : ((decR b).2 != 0) = true := by simpa using h0
      have hnil := decR_no h0
      rw [hnil] at hl4
      have hm0 : 0 = m4 := hl4.len
      subst hm0
      clear hl4 hnil h0
      go_wp2_with fail
      refine (awake_any w4).mono ?_
      rintro e w6 ⟨rfl, hb6⟩
      have hB6 : Below w.heap.size w w6 := hB4.trans (hb6.mono (by omega))
      clear hb4 hb6
      go_wp2
      go_ret
      exact ⟨by simp, hB6⟩
  · have e0 : (docE ls == 0) = false := by simpa using he
    have hbV := hb1
    have hsV := hbV.size
    obtain ⟨V, rfl⟩ : ∃ V, V = w1 := ⟨_, rfl⟩
    clear hy hno hb1 he
    go_wp2_with fail
    refine (Decode_any V w.heap.size A' n' c' b (HB.out.below hbV (Nat.le_refl _)) hnc hcm hsV).mono ?_
    rintro e w4 ⟨A4, m4, c4, rfl, hl4, q4, q5, hb4⟩
    have hs4 := hb4.size
    have hB4 : Below w.heap.size w w4 := hbV.trans (hb4.mono hsV)
    have HL4 := Lib.hid hl4
    by_cases h0 : (decR b).2 = 0
    · obtain ⟨hd, hx⟩ := decR_yes h0
      rw [h0]
      have HD := Lib.hid hd
      have HX := Lib.hid hx
      clear hd hx hl4 h0
      go_wp2_with fail
      refine (Encode_any w4 w4.heap.size A4 m4 c4 (decR b).1 HL4.out (Nat.le_refl _)).mono ?_
      rintro e w5 ⟨A5, m5, c5, rfl, hb5, hy5, hz5⟩
      have hown5 := hy5 HD.out
      rw [HX.out] at hown5
      rw [HD.out]
      have hs5 := hb5.size
      have HO5 := Lib.hid hown5.rd
      clear hown5 hy5 hz5
      go_wp2_with fail
      refine (awake_any w5).mono ?_
      rintro e w6 ⟨rfl, hb6⟩
      have hs6 := hb6.size
      have hB6 : Below w.heap.size w w6 := (hB4.trans (hb5.mono (by omega))).trans (hb6.mono (by omega))
      have cv1 := run_conv (P := Tryd.prog) w6 23 9 5 el_u8.ht Tryd.underlying5 Tryd.underlying9 (c := c5) (HO5.out.below hb6 (Nat.le_refl _))
      have cv2 := run_conv (P := Tryd.prog) w6 23 9 5 el_u8.ht Tryd.underlying5 Tryd.underlying9 (c := c') (HB.out.below hB6 (Nat.le_refl _))
      clear hb4 hb5 hb6
      go_wp2
      go_ret
      exact ⟨by simp, hB6⟩
    · have e1 : ((decR b).2 != 0) = true := by simpa using h0
      have hnil := decR_no h0
      rw [hnil] at hl4
      have hm0 : 0 = m4 := hl4.len
      subst hm0
      clear hl4 hnil h0
      go_wp2_with fail
      refine (awake_any w4).mono ?_
      rintro e w6 ⟨rfl, hb6⟩
      have hB6 : Below w.heap.size w w6 := hB4.trans (hb6.mono (by omega))
      clear hb4 hb6
      go_wp2
      go_ret
      exact ⟨by simp, hB6⟩
end Go.Proofs.YtegedapiefdljaaDoor

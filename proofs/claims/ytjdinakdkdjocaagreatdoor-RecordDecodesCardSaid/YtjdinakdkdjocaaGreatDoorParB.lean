/- What is parsed is the form of what was parsed; bytes that decode are the encoded form. -/
import Derived.Test.YtjdinakdkdjocaaGreatDoorParD
import Derived.Test.YtjdinakdkdjocaaGreatDoorDecF
set_option linter.unusedSimpArgs false
set_option linter.unusedVariables false
set_option maxRecDepth 100000
namespace Go.Adm
open Go Go.RowKit Go.AdP
theorem hexl_hexv (c : UInt8) : AdP.hexv c ≠ 16 → hexl (UInt8.ofNat (AdP.hexv c)) = c := AdP.all_u8 (P := fun c => AdP.hexv c ≠ 16 → hexl (UInt8.ofNat (AdP.hexv c)) = c) (by decide +kernel) c
theorem hexl_hi : ∀ a b : Fin 16, hexl ((UInt8.ofNat (16 * a.val + b.val)) >>> 4) = hexl (UInt8.ofNat a.val) := by decide +kernel
theorem hexl_lo : ∀ a b : Fin 16, hexl ((UInt8.ofNat (16 * a.val + b.val)) &&& 15) = hexl (UInt8.ofNat b.val) := by decide +kernel
theorem unhex_back {n : Nat} {s v : List UInt8} (h : AdP.unhexS n s = some v) : hexL v = s := by
  have hv : v.length = n := AdP.unhexS_32 h
  unfold AdP.unhexS at h
  split at h
  · rename_i hc
    obtain ⟨hl, hall⟩ := hc
    have hvv := Option.some.inj h
    apply List.ext_getElem (by rw [hexL_len]; omega)
    intro j h1 h2
    have hi : j / 2 < v.length := by rw [hexL_len] at h1; omega
    obtain ⟨k1, k2⟩ := AdP.hexL_at v (j / 2) hi
    have hp : AdP.pairB s (j / 2) = true := List.all_eq_true.1 hall _ (List.mem_range.2 (by omega))
    unfold AdP.pairB at hp
    simp only [Bool.and_eq_true, bne_iff_ne, ne_eq] at hp
    have hvj : v[j / 2] = AdP.pairV s (j / 2) := by
      subst hvv
      simp
    have l1 := AdP.hexv_le (s.getD (2 * (j / 2)) 0)
    have l2 := AdP.hexv_le (s.getD (2 * (j / 2) + 1) 0)
    have key : (hexL v).getD j 0 = s.getD j 0 := by
      rcases Nat.mod_two_eq_zero_or_one j with hm | hm
      · have e : 2 * (j / 2) = j := by omega
        have q := hexl_hi ⟨AdP.hexv (s.getD (2 * (j / 2)) 0), by omega⟩ ⟨AdP.hexv (s.getD (2 * (j / 2) + 1) 0), by omega⟩
        rw [hvj] at k1
        unfold AdP.pairV at k1
        rw [show hexl (UInt8.ofNat (16 * AdP.hexv (s.getD (2 * (j / 2)) 0) + AdP.hexv (s.getD (2 * (j / 2) + 1) 0)) >>> 4) = _ from q] at k1
        rw [hexl_hexv _ hp.1, e] at k1
        exact k1
      · have e : 2 * (j / 2) + 1 = j := by omega
        have q := hexl_lo ⟨AdP.hexv (s.getD (2 * (j / 2)) 0), by omega⟩ ⟨AdP.hexv (s.getD (2 * (j / 2) + 1) 0), by omega⟩
        rw [hvj] at k2
        unfold AdP.pairV at k2
        rw [show hexl (UInt8.ofNat (16 * AdP.hexv (s.getD (2 * (j / 2)) 0) + AdP.hexv (s.getD (2 * (j / 2) + 1) 0)) &&& 15) = _ from q] at k2
        rw [hexl_hexv _ hp.2, e] at k2
        exact k2
    rw [List.getD_eq_getElem?_getD, List.getD_eq_getElem?_getD, List.getElem?_eq_getElem h1, List.getElem?_eq_getElem h2] at key
    exact key
  · cases h
theorem parseD_back {s v : List UInt8} (h : AdP.parseD s = some v) : fmtL v = s := by
  unfold AdP.parseD at h
  split at h
  · rename_i h1
    unfold fmtL
    rw [unhex_back h, ← h1, List.take_append_drop]
  · cases h
theorem ba_of {s : ByteArray} {l : List UInt8} (h : l = s.data.toList) : (⟨l.toArray⟩ : ByteArray) = s := by
  subst h
  cases s
  simp
theorem decR_zero {b : List UInt8} {ls : List (List ByteArray)} (h0 : (decR b).2 = 0) (h : (decR b).1 = ls) : docE ls = 0 ∧ encD ls = b := by
  unfold decR at h0 h
  by_cases h1 : 262144 < b.length
  · rw [if_pos h1] at h0; cases h0
  · rw [if_neg h1] at h0 h
    cases hd : decO b with
    | none => rw [hd] at h0; cases h0
    | some ls' =>
      rw [hd] at h0 h
      simp only at h0 h
      by_cases h2 : 1000 < ls'.length
      · rw [if_pos h2] at h0; cases h0
      · rw [if_neg h2] at h
        simp only at h
        subst h
        obtain ⟨e1, e2⟩ := decO_enc hd
        exact ⟨docE_ok h2 e2 (by rw [e1]; exact h1), e1⟩
end Go.Adm

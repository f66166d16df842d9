/- What signing gives, for the laws: plain Lean. -/
import Derived.Test.YtfakjamocpamiaaEnvT
set_option linter.unusedSimpArgs false
set_option linter.unusedVariables false
set_option maxRecDepth 100000
namespace Go.Adm
open Go Go.RowKit Go.Proofs.Ytfakjamocpamiaa
theorem signE_bad {R : EnvR} {seed : List UInt8} {h n : Int} (e : (signE R seed h n).2.2 ≠ 0) : (signE R seed h n).1 = envR0 := by
  unfold signE at e ⊢
  split
  · rfl
  · rename_i h1
    rw [if_neg h1] at e
    split
    · rfl
    · rename_i h2
      rw [if_neg h2] at e
      split
      · rfl
      · rename_i h3
        rw [if_neg h3] at e
        split
        · rfl
        · rename_i h4
          rw [if_neg h4] at e
          exact absurd rfl e
/-- what is signed is shaped -/
theorem signE_sh (R : EnvR) (seed : List UInt8) (h n : Int) : ∀ s ∈ (signE R seed h n).1.sigs, shG s = true := by
  by_cases e : (signE R seed h n).2.2 = 0
  · obtain ⟨h1, h2, h3, h4, h5⟩ := signE_zero e
    obtain ⟨kh, kn, rfl, rfl, hk6, hkn⟩ := signR_make0 h2
    rw [h5, signR_make seed _ kh kn hk6 hkn]
    intro s hs
    rcases mem_putG.1 hs with rfl | h6
    · exact shG_signed seed (msgS R.kind R.pay) kh kn hk6 hkn
    · exact (validR_iff.1 h1).2.2.2.1 s h6
  · rw [signE_bad e]
    intro s hs
    cases hs
/-- what is signed is not large -/
theorem signE_size (R : EnvR) (seed : List UInt8) (h n : Int) : (signE R seed h n).1.kind.size ≤ R.kind.size ∧ (signE R seed h n).1.pay.length ≤ R.pay.length ∧ (signE R seed h n).1.sigs.length ≤ R.sigs.length + 1 := by
  by_cases e : (signE R seed h n).2.2 = 0
  · obtain ⟨h1, h2, h3, h4, h5⟩ := signE_zero e
    rw [h5]
    exact ⟨Nat.le_refl _, Nat.le_refl _, by show (putG _ _).length ≤ _; rw [putG_len]; exact Nat.le_refl _⟩
  · rw [signE_bad e]
    exact ⟨Nat.zero_le _, Nat.zero_le _, Nat.zero_le _⟩
def seedM (b : UInt8) : List UInt8 := b :: 1 :: List.replicate 14 0
theorem seedM_len (b : UInt8) : (seedM b).length = 16 := rfl
/-- all that signed verify -/
theorem SgnI.count {kd : ByteArray} {py : List UInt8} {k : Nat} {R : EnvR} (h : SgnI kd py k R) : (signersE R).length = R.sigs.length := by
  unfold signersE
  rw [if_pos h.val, List.filter_eq_self.2 (fun s hs => by rw [h.kind, h.pay]; exact h.ver s hs), List.length_map]
/-- one more has signed -/
theorem counts_one (p q : List UInt8) (seed : List UInt8) (e : (signE (baseR p q) seed 0 0).2.2 = 0) : validR (signE (baseR p q) seed 0 0).1 = true ∧ (signE (baseR p q) seed 0 0).1.kind = (baseR p q).kind ∧ (signE (baseR p q) seed 0 0).1.pay = (baseR p q).pay ∧ (signersE (signE (baseR p q) seed 0 0).1).length = (baseR p q).sigs.length + 1 := by
  obtain ⟨h, x, hx, -, -⟩ := (baseR_ok p q).sign (by decide) e
  have h0 := baseR_ok p q
  refine ⟨h.val, h.kind.trans h0.kind.symm, h.pay.trans h0.pay.symm, ?_⟩
  rw [h.count, hx, putG_len]
/-- the signer that signing leaves -/
theorem signE_si2 (R : EnvR) (seed : List UInt8) (h n : Int) (hs : seed.length = 16) : ∃ s h' n', (signE R seed h n).2.1 = siCells s h' n' ∧ s.length = 16 ∧ (0 ≤ h' ∧ h' ≤ 6) ∧ 0 ≤ n' ∧ n' ≤ 64 := by
  have hz : ∃ (s : List UInt8) (h n : Int), siz = siCells s h n ∧ s.length = 16 ∧ (0 ≤ h ∧ h ≤ 6) ∧ 0 ≤ n ∧ n ≤ 64 := ⟨List.replicate 16 0, 0, 0, rfl, rfl, by decide, by decide, by decide⟩
  unfold signE
  split
  · exact hz
  · split
    · exact hz
    · split
      · exact hz
      · split
        · exact hz
        · exact (signR_ok seed (msgS R.kind R.pay) h n hs).si
/-- all that the laws take from what signing gives -/
theorem signE_all (R : EnvR) (seed : List UInt8) (h n : Int) (hs : seed.length = 16) (h1 : R.kind.size ≤ 300) (h2 : R.pay.length ≤ 100000) (h3 : R.sigs.length ≤ 12) :
    ∃ RA s2 h2 n2 er, signE R seed h n = (RA, siCells s2 h2 n2, er) ∧ s2.length = 16 ∧ (0 ≤ h2 ∧ h2 ≤ 6) ∧ (0 ≤ n2 ∧ n2 ≤ 64) ∧ (∀ s ∈ RA.sigs, shG s = true) ∧ RA.kind.size ≤ 300 ∧ RA.pay.length ≤ 100000 ∧ RA.sigs.length ≤ 13 := by
  obtain ⟨s2, h', n', e, a1, a2, a3⟩ := signE_si2 R seed h n hs
  obtain ⟨b1, b2, b3⟩ := signE_size R seed h n
  exact ⟨(signE R seed h n).1, s2, h', n', (signE R seed h n).2.2, by rw [← e], a1, a2, a3, signE_sh R seed h n, Nat.le_trans b1 h1, Nat.le_trans b2 h2, by omega⟩
end Go.Adm

/- Who has signed a joined envelope: plain Lean. -/
import Derived.Test.YtfakjamocpamiaaEnvS
import Derived.Test.YtfakjamocpamiaaKyE
set_option linter.unusedSimpArgs false
set_option linter.unusedVariables false
namespace Go.Adm
open Go Go.RowKit Go.Proofs.Ytfakjamocpamiaa
/-- a key is among those whose signature verifies -/
def SgV (m : List UInt8) (l : List Sg) (d : List UInt8) : Prop := ∃ s ∈ l, verG m s = true ∧ idG s = d
theorem SgV.step {m : List UInt8} {l : List Sg} {x : Sg} (hs : SortG l) (d : List UInt8) : SgV m (stepG m l x) d ↔ SgV m l d ∨ (verG m x = true ∧ idG x = d) := by
 cases hh : hasG l (idG x) with
 | false =>
  rw [stepG_new hh]
  constructor
  ·rintro ⟨s, h1, h2⟩
   rcases mem_putG.1 h1 with rfl | h1
   ·exact .inr h2
   ·exact .inl ⟨s, h1, h2⟩
  ·rintro (⟨s, h1, h2⟩ | h2)
   ·exact ⟨s, mem_putG.2 (.inr h1), h2⟩
   ·exact ⟨x, mem_putG.2 (.inl rfl), h2⟩
 | true =>
  obtain ⟨hp, he⟩ := hasG_at hs hh
  rw [stepG_had hp rfl hh]
  by_cases hc : verG m l[placeG l (idG x)] = false ∧ verG m x = true
  ·rw [if_pos hc]
   constructor
   ·rintro ⟨s, h1, h2⟩
    rcases List.mem_or_eq_of_mem_set h1 with h1 | rfl
    ·exact .inl ⟨s, h1, h2⟩
    ·exact .inr h2
   ·rintro (⟨s, h1, h2⟩ | h2)
    ·obtain ⟨i, hi, rfl⟩ := List.getElem_of_mem h1
     by_cases hik : placeG l (idG x) = i
     ·subst hik
      rw [hc.1] at h2
      exact absurd h2.1 (by decide)
     ·refine ⟨l[i], ?_, h2⟩
      have := List.getElem_mem (l := l.set (placeG l (idG x)) x) (n := i) (by rw [List.length_set]; exact hi)
      rwa [List.getElem_set_ne hik] at this
    ·refine ⟨x, ?_, h2⟩
     have := List.getElem_mem (l := l.set (placeG l (idG x)) x) (n := placeG l (idG x)) (by rw [List.length_set]; exact hp)
     rwa [List.getElem_set_self] at this
  ·rw [if_neg hc]
   constructor
   ·exact .inl
   ·rintro (h2 | h2)
    ·exact h2
    ·refine ⟨l[placeG l (idG x)], List.getElem_mem hp, ?_, he.trans h2.2⟩
     cases hv : verG m l[placeG l (idG x)] with
     | true => rfl
     | false => exact absurd ⟨hv, h2.1⟩ hc
theorem foldG_sort (m : List UInt8) : ∀ (xs l : List Sg), SortG l → SortG (xs.foldl (stepG m) l)
 | [], _, h => h
 | x :: xs, l, h => foldG_sort m xs _ h.step
theorem foldG_shaped (m : List UInt8) : ∀ (xs l : List Sg), (∀ s ∈ l, shG s = true) → (∀ s ∈ xs, shG s = true) → ∀ s ∈ xs.foldl (stepG m) l, shG s = true
 | [], _, h, _ => h
 | x :: xs, l, h, hx => foldG_shaped m xs _ (stepG_shaped h (hx x List.mem_cons_self)) (fun s hs => hx s (List.mem_cons_of_mem _ hs))
theorem foldG_len (m : List UInt8) : ∀ (xs l : List Sg), (xs.foldl (stepG m) l).length ≤ l.length + xs.length
 | [], _ => Nat.le_refl _
 | x :: xs, l => by
  have h1 := foldG_len m xs (stepG m l x)
  have h2 := stepG_len m l x
  rw [List.foldl_cons, List.length_cons]; omega
theorem SgV.fold {m : List UInt8} : ∀ {xs l : List Sg}, SortG l → ∀ d, SgV m (xs.foldl (stepG m) l) d ↔ SgV m l d ∨ SgV m xs d
 | [], l, _, d => ⟨.inl, fun h => h.elim id (fun ⟨_, h, _⟩ => by cases h)⟩
 | x :: xs, l, h, d => by
  rw [List.foldl_cons, SgV.fold h.step, SgV.step h]
  constructor
  ·rintro ((h1 | h1) | ⟨s, h1, h2⟩)
   ·exact .inl h1
   ·exact .inr ⟨x, List.mem_cons_self, h1⟩
   ·exact .inr ⟨s, List.mem_cons_of_mem _ h1, h2⟩
  ·rintro (h1 | ⟨s, h1, h2⟩)
   ·exact .inl (.inl h1)
   ·rcases List.mem_cons.1 h1 with rfl | h1
    ·exact .inl (.inr h2)
    ·exact .inr ⟨s, h1, h2⟩
theorem mem_signers {R : EnvR} (h : validR R = true) (d : List UInt8) : d ∈ signersE R ↔ SgV (msgS R.kind R.pay) R.sigs d := by
 unfold signersE
 rw [if_pos h, List.mem_map]
 constructor
 ·rintro ⟨s, h1, h2⟩
  exact ⟨s, (List.mem_filter.1 h1).1, (List.mem_filter.1 h1).2, h2⟩
 ·rintro ⟨s, h1, h2, h3⟩
  exact ⟨s, List.mem_filter.2 ⟨h1, h2⟩, h3⟩
theorem signers_asc {R : EnvR} (h : validR R = true) : (signersE R).Pairwise fun a b => lessD a b = true := by
 unfold signersE
 rw [if_pos h, List.pairwise_map]
 exact List.Pairwise.sublist List.filter_sublist (validR_iff.1 h).2.2.2.2
theorem signers_32 (R : EnvR) : ∀ d ∈ signersE R, d.length = 32 := by
 unfold signersE
 split
 ·intro d hd
  obtain ⟨s, _, rfl⟩ := List.mem_map.1 hd
  exact idG_len s
 ·intro d hd; cases hd
theorem signers_len (R : EnvR) : (signersE R).length ≤ R.sigs.length := by
 unfold signersE
 split
 ·rw [List.length_map]; exact List.length_filter_le _ _
 ·exact Nat.zero_le _
/-- two envelopes of one payload that are joined -/
theorem joinE_ok {R S : EnvR} (hR : validR R = true) (hS : validR S = true) (hk : R.kind = S.kind) (hp : R.pay = S.pay) (hl : R.sigs.length + S.sigs.length ≤ 8) :
  joinE R S = (⟨R.kind, R.pay, S.sigs.foldl (stepG (msgS R.kind R.pay)) R.sigs⟩, 0) ∧ validR ⟨R.kind, R.pay, S.sigs.foldl (stepG (msgS R.kind R.pay)) R.sigs⟩ = true := by
 have h1 := foldG_len (msgS R.kind R.pay) S.sigs R.sigs
 obtain ⟨a1, a2, a3, a4, a5⟩ := validR_iff.1 hR
 obtain ⟨b1, b2, b3, b4, b5⟩ := validR_iff.1 hS
 refine ⟨?_, validR_iff.2 ⟨a1, a2, by show (List.foldl (stepG (msgS R.kind R.pay)) R.sigs S.sigs).length ≤ 8; omega, foldG_shaped _ _ _ a4 b4, foldG_sort _ _ _ a5⟩⟩
 unfold joinE
 rw [if_neg (by rw [hR, hS]; simp), if_neg (by rw [hk, hp]; simp), if_neg (by omega)]
theorem join_signers {R S : EnvR} (hR : validR R = true) (hS : validR S = true) (hk : R.kind = S.kind) (hp : R.pay = S.pay) (hl : R.sigs.length + S.sigs.length ≤ 8) (d : List UInt8) :
  d ∈ signersE ⟨R.kind, R.pay, S.sigs.foldl (stepG (msgS R.kind R.pay)) R.sigs⟩ ↔ d ∈ signersE R ∨ d ∈ signersE S := by
 rw [mem_signers (joinE_ok hR hS hk hp hl).2, mem_signers hR, mem_signers hS, ← hk, ← hp]
 exact SgV.fold (validR_iff.1 hR).2.2.2.2 d
end Go.Adm

/- The envelopes that the laws make: plain Lean. -/
import Derived.Test.YtfakjamocpamiaaEnvK
import Derived.Test.YtfakjamocpamiaaEnvO
set_option linter.unusedSimpArgs false
set_option linter.unusedVariables false
set_option maxRecDepth 100000
namespace Go.Adm
open Go Go.RowKit Go.Proofs.Ytfakjamocpamiaa
def sRec : ByteArray := ⟨#[114, 101, 99, 111, 114, 100]⟩
def sLay : ByteArray := ⟨#[108, 97, 121, 111, 117, 116]⟩
theorem rec_ok : nameB sRec = true := nameB_yes ⟨by decide, by decide, by decide⟩
def seedU (b : UInt8) : List UInt8 := b :: List.replicate 15 0
/-- one more signs, if that is possible -/
noncomputable def signN (R : EnvR) (b : UInt8) : EnvR := if (signE R (seedU b) ((b.toNat % 2 : Nat) : Int) 0).2.2 = 0 then (signE R (seedU b) ((b.toNat % 2 : Nat) : Int) 0).1 else R
/-- the first k bytes have signed -/
noncomputable def baseK (p q : List UInt8) (k : Nat) : EnvR := (q.take k).foldl signN ⟨sRec, p.take 200, []⟩
theorem baseK_succ {p q : List UInt8} {k : Nat} (hk : k < q.length) : baseK p q (k + 1) = signN (baseK p q k) q[k] := by
 unfold baseK
 rw [List.take_succ_eq_append_getElem hk, List.foldl_append]; rfl
theorem signE_zero {R : EnvR} {seed : List UInt8} {h n : Int} (e : (signE R seed h n).2.2 = 0) : validR R = true ∧ (signR seed (msgS R.kind R.pay) h n).err = 0 ∧ hasG R.sigs (idS h (rootS seed h.toNat)) = false ∧ R.sigs.length ≠ 8 ∧
  signE R seed h n = (⟨R.kind, R.pay, putG R.sigs ⟨h, rootS seed h.toNat, (signR seed (msgS R.kind R.pay) h n).leaf, (signR seed (msgS R.kind R.pay) h n).chain, (signR seed (msgS R.kind R.pay) h n).path⟩⟩, (signR seed (msgS R.kind R.pay) h n).si, 0) := by
 unfold signE at e ⊢
 split at e
 ·exact absurd e (by decide)
 ·rename_i h1
  split at e
  ·rename_i h2; exact absurd e h2
  ·rename_i h2
   split at e
   ·exact absurd e (by decide)
   ·rename_i h3
    split at e
    ·exact absurd e (by decide)
    ·rename_i h4
     rw [if_neg h1, if_neg h2, if_neg h3, if_neg h4]
     exact ⟨by simpa using h1, by simpa using h2, by simpa using h3, h4, rfl⟩
theorem signR_make0 {seed d : List UInt8} {h n : Int} (e : (signR seed d h n).err = 0) : ∃ kh kn : Nat, h = kh ∧ n = kn ∧ kh ≤ 6 ∧ kn < 2 ^ kh := by
 unfold signR at e
 split at e
 ·exact absurd e (by decide)
 ·rename_i h1
  split at e
  ·exact absurd e (by decide)
  ·rename_i h2
   have h3 : hOk h = true := by cases hq : hOk h <;> simp_all
   have h4 := (hOk_iff h).1 h3
   have h5 : ¬ n < 0 := fun e => h1 (.inr e)
   exact ⟨h.toNat, n.toNat, by omega, by omega, by omega, by omega⟩
/-- what holds of an envelope that was signed here -/
structure SgnI (kd : ByteArray) (py : List UInt8) (k : Nat) (R : EnvR) : Prop where
 val : validR R = true
 kind : R.kind = kd
 pay : R.pay = py
 len : R.sigs.length ≤ k
 ver : ∀ s ∈ R.sigs, verG (msgS kd py) s = true
theorem SgnI.sign {kind : ByteArray} {pay : List UInt8} {k : Nat} {R : EnvR} {seed : List UInt8} {h n : Int} (hI : SgnI kind pay k R) (hk : k < 8) (e : (signE R seed h n).2.2 = 0) :
  SgnI kind pay (k + 1) (signE R seed h n).1 ∧ ∃ x, (signE R seed h n).1 = ⟨kind, pay, putG R.sigs x⟩ ∧ hasG R.sigs (idG x) = false ∧ verG (msgS kind pay) x = true := by
 obtain ⟨h1, h2, h3, h4, h5⟩ := signE_zero e
 obtain ⟨kh, kn, rfl, rfl, hk6, hkn⟩ := signR_make0 h2
 rw [h5, signR_make seed _ kh kn hk6 hkn]
 dsimp only
 rw [Int.toNat_natCast] at h3 ⊢
 obtain ⟨a1, a2, a3, a4, a5⟩ := validR_iff.1 h1
 have hs := shG_signed seed (msgS R.kind R.pay) kh kn hk6 hkn
 have hv := verG_signed seed (msgS R.kind R.pay) kh kn hk6 hkn
 rw [hI.kind, hI.pay] at hs hv ⊢
 refine ⟨⟨validR_iff.2 ⟨by show nameB kind = true; rw [← hI.kind]; exact a1, by show pay.length ≤ _; rw [← hI.pay]; exact a2, by show (putG _ _).length ≤ 8; rw [putG_len]; have := hI.len; omega, fun s hs' => ?_, a5.put h3⟩, rfl, rfl, by show (putG _ _).length ≤ _; rw [putG_len]; have := hI.len; omega, fun s hs' => ?_⟩, _, rfl, h3, hv⟩
 ·rcases mem_putG.1 hs' with rfl | h6
  ·exact hs
  ·exact a4 s h6
 ·rcases mem_putG.1 hs' with rfl | h6
  ·exact hv
  ·exact hI.ver s h6
theorem SgnI.step {kind : ByteArray} {pay : List UInt8} {k : Nat} {R : EnvR} {b : UInt8} (hI : SgnI kind pay k R) (hk : k < 8) : SgnI kind pay (k + 1) (signN R b) := by
 unfold signN
 split
 ·next e => exact (hI.sign hk e).1
 ·exact ⟨hI.val, hI.kind, hI.pay, Nat.le_succ_of_le hI.len, hI.ver⟩
theorem SgnI.base (p q : List UInt8) : ∀ k, k ≤ 3 → k ≤ q.length → SgnI sRec (p.take 200) k (baseK p q k)
 | 0, _, _ => ⟨validR_iff.2 ⟨rec_ok, by show (p.take 200).length ≤ 32768; rw [List.length_take]; omega, Nat.zero_le _, fun s hs => (by cases hs), List.Pairwise.nil⟩, rfl, rfl, Nat.le_refl _, fun s hs => (by cases hs)⟩
 | k + 1, h3, hk => by
  rw [baseK_succ (by omega)]
  exact (SgnI.base p q k (by omega) (by omega)).step (by omega)
/-- the case's remainder -/
def spoilK (sp : Int) : Int := (sp.tmod 6 + 6).tmod 6
theorem spoil_zero : spoilK 0 = 0 := by decide
noncomputable def baseR (p q : List UInt8) : EnvR := baseK p q (min q.length 3)
theorem baseR_ok (p q : List UInt8) : SgnI sRec (p.take 200) 3 (baseR p q) := by
 have h := SgnI.base p q (min q.length 3) (by omega) (by omega)
 exact ⟨h.val, h.kind, h.pay, Nat.le_trans h.len (by omega), h.ver⟩
/-- what the laws take from a made envelope -/
structure MadeR (p q : List UInt8) (sp : Int) (R : EnvR) : Prop where
 kind : R.kind.size ≤ 6
 pay : R.pay.length ≤ 201
 len : R.sigs.length ≤ 3
 each : ∀ s ∈ R.sigs, s.chain.length = 68 ∧ s.path.length ≤ 6
 val : spoilK sp = 0 ∨ spoilK sp = 1 → validR R = true ∧ R.kind = sRec ∧ R.pay = p.take 200
 zero : spoilK sp = 0 → R = baseR p q
theorem SgnI.made {p q : List UInt8} {sp : Int} : MadeR p q sp (baseR p q) := by
 have h := baseR_ok p q
 refine ⟨by rw [h.kind]; decide, by rw [h.pay, List.length_take]; omega, h.len, fun s hs => ?_, fun _ => ⟨h.val, h.kind, h.pay⟩, fun _ => rfl⟩
 have h1 := shG_facts ((validR_iff.1 h.val).2.2.2.1 s hs)
 exact ⟨h1.2.2.1, h1.2.2.2⟩
/-- a change that keeps keys and lengths -/
theorem MadeR.alter {p q : List UInt8} {sp : Int} {R : EnvR} {k : Nat} {y : Sg} (h : MadeR p q 0 R) (hk : k < R.sigs.length) (h1 : y.chain.length = R.sigs[k].chain.length) (h2 : y.path = R.sigs[k].path) (h3 : y.h = R.sigs[k].h) (h4 : y.r = R.sigs[k].r) (h5 : y.leaf = R.sigs[k].leaf) (hs : spoilK sp ≠ 0) : MadeR p q sp ⟨R.kind, R.pay, R.sigs.set k y⟩ := by
 obtain ⟨hv, hkd, hpy⟩ := h.val (.inl spoil_zero)
 obtain ⟨a1, a2, a3, a4, a5⟩ := validR_iff.1 hv
 have hy : shG y = true := by
  have := a4 _ (List.getElem_mem hk)
  unfold shG at this ⊢
  rw [h1, h2, h3, h5]; exact this
 refine ⟨h.kind, h.pay, by show (List.set _ _ _).length ≤ 3; rw [List.length_set]; exact h.len, fun s hs' => ?_, fun _ => ⟨validR_iff.2 ⟨a1, a2, by show (List.set _ _ _).length ≤ 8; rw [List.length_set]; exact a3, fun s hs' => ?_, a5.set hk (by unfold idG; rw [h3, h4])⟩, hkd, hpy⟩, fun h0 => absurd h0 hs⟩
 ·rcases List.mem_or_eq_of_mem_set hs' with h6 | rfl
  ·exact h.each s h6
  ·have := h.each _ (List.getElem_mem hk)
   rw [h1, h2]; exact this
 ·rcases List.mem_or_eq_of_mem_set hs' with h6 | rfl
  ·exact a4 s h6
  ·exact hy
/-- a change of which only the sizes matter -/
theorem MadeR.any {p q : List UInt8} {sp : Int} {R : EnvR} (h1 : R.kind.size ≤ 6) (h2 : R.pay.length ≤ 201) (h3 : R.sigs.length ≤ 3) (h4 : ∀ s ∈ R.sigs, s.chain.length = 68 ∧ s.path.length ≤ 6) (h0 : spoilK sp ≠ 0) (h5 : spoilK sp ≠ 1) : MadeR p q sp R :=
 ⟨h1, h2, h3, h4, fun h => absurd h (fun h => h.elim h0 h5), fun h => absurd h h0⟩
end Go.Adm

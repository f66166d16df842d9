/- The signers of joined envelopes, as a sorted set: plain Lean. -/
import Derived.Test.YtfakjamocpamiaaEnvJa
import Derived.Test.YtfakjamocpamiaaStoAd
import Derived.Laws.BitsLemmas
set_option linter.unusedSimpArgs false
set_option linter.unusedVariables false
set_option maxRecDepth 100000
namespace Go.Adm
open Go Go.RowKit Go.Proofs.Ytfakjamocpamiaa
theorem placeD_nil (d : List UInt8) : placeD [] d = 0 := rfl
theorem placeD_pos {x d : List UInt8} {xs : List (List UInt8)} (h : lessD x d = true) : placeD (x :: xs) d = placeD xs d + 1 := by
 unfold placeD
 rw [List.takeWhile_cons_of_pos (by simpa using h), List.length_cons]
theorem placeD_neg {x d : List UInt8} {xs : List (List UInt8)} (h : lessD x d = false) : placeD (x :: xs) d = 0 := by
 unfold placeD
 rw [List.takeWhile_cons_of_neg (by simpa using h)]; rfl
def Asc (xs : List (List UInt8)) : Prop := xs.Pairwise fun a b => lessD a b = true
theorem ins_asc {d : List UInt8} : ∀ {xs : List (List UInt8)}, Asc xs → d ∉ xs → Asc (xs.take (placeD xs d) ++ d :: xs.drop (placeD xs d))
 | [], _, _ => by simp [Asc, placeD_nil]
 | x :: xs, h, hd => by
  obtain ⟨h1, h2⟩ := List.pairwise_cons.1 h
  cases hx : lessD x d with
  | true =>
   rw [placeD_pos hx, List.take_succ_cons, List.drop_succ_cons, List.cons_append]
   refine List.pairwise_cons.2 ⟨fun y hy => ?_, ins_asc h2 (fun hm => hd (List.mem_cons_of_mem _ hm))⟩
   rcases List.mem_append.1 hy with h3 | h3
   ·exact h1 y (List.mem_of_mem_take h3)
   ·rcases List.mem_cons.1 h3 with h3 | h3
    ·rw [h3]; exact hx
    ·exact h1 y (List.mem_of_mem_drop h3)
  | false =>
   rw [placeD_neg hx, List.take_zero, List.drop_zero, List.nil_append]
   have h3 : lessD d x = true := by
    cases hq : lessD d x with
    | true => rfl
    | false => exact absurd (lessD_total hx hq) (fun e => hd (by rw [e]; exact List.mem_cons_self ..))
   refine List.pairwise_cons.2 ⟨fun y hy => ?_, h⟩
   rcases List.mem_cons.1 hy with h4 | h4
   ·rw [h4]; exact h3
   ·exact lessD_trans h3 (h1 y h4)
theorem addD_asc {xs : List (List UInt8)} {d : List UInt8} (h : Asc xs) : Asc (addD xs d) := by
 unfold addD
 split
 ·exact h
 ·rename_i hd; exact ins_asc h hd
theorem mem_ins {α : Type} {xs : List α} {k : Nat} {d y : α} : y ∈ xs.take k ++ d :: xs.drop k ↔ y = d ∨ y ∈ xs := by
 rw [List.mem_append, List.mem_cons]
 have h : y ∈ xs ↔ y ∈ xs.take k ∨ y ∈ xs.drop k := by rw [← List.mem_append, List.take_append_drop]
 rw [h]
 constructor
 ·rintro (h1 | h1 | h1)
  ·exact Or.inr (Or.inl h1)
  ·exact Or.inl h1
  ·exact Or.inr (Or.inr h1)
 ·rintro (h1 | h1 | h1)
  ·exact Or.inr (Or.inl h1)
  ·exact Or.inl h1
  ·exact Or.inr (Or.inr h1)
theorem mem_addD {xs : List (List UInt8)} {d y : List UInt8} : y ∈ addD xs d ↔ y = d ∨ y ∈ xs := by
 unfold addD
 split
 ·rename_i h
  exact ⟨Or.inr, fun h1 => h1.elim (fun e => by rw [e]; exact h) id⟩
 ·exact mem_ins
theorem asc_same : ∀ {xs ys : List (List UInt8)}, Asc xs → Asc ys → (∀ d, d ∈ xs ↔ d ∈ ys) → xs = ys
 | [], [], _, _, _ => rfl
 | [], y :: ys, _, _, h => absurd ((h y).2 List.mem_cons_self) (by simp)
 | x :: xs, [], _, _, h => absurd ((h x).1 List.mem_cons_self) (by simp)
 | x :: xs, y :: ys, hx, hy, h => by
  obtain ⟨hx1, hx2⟩ := List.pairwise_cons.1 hx
  obtain ⟨hy1, hy2⟩ := List.pairwise_cons.1 hy
  have hxy : x = y := by
   rcases List.mem_cons.1 ((h x).1 List.mem_cons_self) with e | h1
   ·exact e
   ·rcases List.mem_cons.1 ((h y).2 List.mem_cons_self) with e | h2
    ·exact e.symm
    ·have := lessD_trans (hy1 x h1) (hx1 y h2)
     rw [lessD_irrefl] at this
     cases this
  subst hxy
  rw [asc_same hx2 hy2 (fun d => ⟨fun hd => ?_, fun hd => ?_⟩)]
  ·rcases List.mem_cons.1 ((h d).1 (List.mem_cons_of_mem _ hd)) with e | h1
   ·have := hx1 d hd
    rw [e, lessD_irrefl] at this
    cases this
   ·exact h1
  ·rcases List.mem_cons.1 ((h d).2 (List.mem_cons_of_mem _ hd)) with e | h1
   ·have := hy1 d hd
    rw [e, lessD_irrefl] at this
    cases this
   ·exact h1
/-- a set with the first k of a list -/
def addsD (b : List (List UInt8)) (ds : List (List UInt8)) : List (List UInt8) := ds.foldl addD b
theorem addsD_asc : ∀ (ds b : List (List UInt8)), Asc b → Asc (addsD b ds)
 | [], _, h => h
 | d :: ds, b, h => addsD_asc ds (addD b d) (addD_asc h)
theorem mem_addsD : ∀ (ds b : List (List UInt8)) (y : List UInt8), y ∈ addsD b ds ↔ y ∈ b ∨ y ∈ ds
 | [], b, y => by simp [addsD]
 | d :: ds, b, y => by
  show y ∈ addsD (addD b d) ds ↔ _
  rw [mem_addsD ds, mem_addD, List.mem_cons]
  constructor
  ·rintro ((h | h) | h)
   ·exact .inr (.inl h)
   ·exact .inl h
   ·exact .inr (.inr h)
  ·rintro (h | h | h)
   ·exact .inl (.inr h)
   ·exact .inl (.inl h)
   ·exact .inr h
theorem addsD_succ {b ds : List (List UInt8)} {k : Nat} (hk : k < ds.length) : addsD b (ds.take (k + 1)) = addD (addsD b (ds.take k)) ds[k] := by
 unfold addsD
 rw [List.take_succ_eq_append_getElem hk, List.foldl_append]
 rfl
theorem addsD_len : ∀ (ds b : List (List UInt8)), (addsD b ds).length ≤ b.length + ds.length
 | [], b => by simp [addsD]
 | d :: ds, b => by
  have h := addsD_len ds (addD b d)
  have h2 := addD_len (xs := b) (d := d)
  show (addsD (addD b d) ds).length ≤ _
  rw [List.length_cons]; omega
theorem addsD_32 : ∀ (ds b : List (List UInt8)), (∀ x ∈ b, x.length = 32) → (∀ x ∈ ds, x.length = 32) → ∀ x ∈ addsD b ds, x.length = 32
 | [], _, h, _ => h
 | d :: ds, b, h, h2 => addsD_32 ds (addD b d) (addD_32 h (h2 d List.mem_cons_self)) (fun x hx => h2 x (List.mem_cons_of_mem _ hx))
/-- the signers of two envelopes that are joined, in either order -/
theorem unites {R S : EnvR} (hR : validR R = true) (hS : validR S = true) (hk : R.kind = S.kind) (hp : R.pay = S.pay) (hl : R.sigs.length + S.sigs.length ≤ 8) :
  ∃ X Y, joinE R S = (X, 0) ∧ joinE S R = (Y, 0) ∧ signersE X = addsD (addsD [] (signersE R)) (signersE S) ∧ signersE Y = addsD (addsD [] (signersE R)) (signersE S) ∧ X.kind.size = R.kind.size ∧ X.pay.length = R.pay.length ∧ X.sigs.length ≤ 8 ∧ Y.kind.size = R.kind.size ∧ Y.pay.length = R.pay.length ∧ Y.sigs.length ≤ 8 := by
 have hl' : S.sigs.length + R.sigs.length ≤ 8 := by omega
 obtain ⟨e1, v1⟩ := joinE_ok hR hS hk hp hl
 obtain ⟨e2, v2⟩ := joinE_ok hS hR hk.symm hp.symm hl'
 have hA : Asc (addsD (addsD [] (signersE R)) (signersE S)) := addsD_asc _ _ (addsD_asc _ _ List.Pairwise.nil)
 refine ⟨_, _, e1, e2, asc_same (signers_asc v1) hA (fun d => ?_), asc_same (signers_asc v2) hA (fun d => ?_), rfl, rfl, (validR_iff.1 v1).2.2.1, by rw [hk], by rw [hp], (validR_iff.1 v2).2.2.1⟩
 ·rw [join_signers hR hS hk hp hl, mem_addsD, mem_addsD]; simp
 ·rw [join_signers hS hR hk.symm hp.symm hl', mem_addsD, mem_addsD]; simp [or_comm]
theorem i64_and1 (n : Int) : bits .and .i64 n 1 = n % 2 := by
 have h1 : (BitVec.ofInt 64 1).toNat = 2 ^ 1 - 1 := by decide
 have key : (BitVec.ofInt 64 n &&& BitVec.ofInt 64 1).toNat = (n % ((2 ^ 64 : Nat) : Int)).toNat % 2 ^ 1 := by
  rw [BitVec.toNat_and, BitVec.toNat_ofInt, h1, Nat.and_two_pow_sub_one_eq_mod]
 show IntKind.i64.wrap ((BitVec.ofInt 64 n &&& BitVec.ofInt 64 1).toNat : Nat) = n % 2
 rw [key, IntKind.wrap_i64]
 omega
theorem spoil_even (n : Int) : spoilK (n % 2) = 0 ∨ spoilK (n % 2) = 1 := by
 have h : n % 2 = 0 ∨ n % 2 = 1 := by omega
 rcases h with h | h <;> rw [h]
 ·exact .inl spoil_zero
 ·exact .inr (by decide)
end Go.Adm

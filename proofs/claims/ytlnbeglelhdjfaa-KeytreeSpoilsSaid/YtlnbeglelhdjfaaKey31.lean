/- Signers and public keys compared; Sign at every input. -/
import Derived.Test.YtlnbeglelhdjfaaKey30
set_option linter.unusedSimpArgs false
set_option linter.unusedVariables false
namespace Go.Adm
open Go Go.RowKit
theorem kl_i64 {P : Program} {e : TypeId} (he : P.underlying e = some (.int .i64)) (v : Int) (h0 : -9223372036854775808 ≤ v) (h1 : v ≤ 9223372036854775807) (d : Nat) : P.keyLits (d + 1) e [.int .i64 v] = some [.int .i64 v] := by
  unfold Program.keyLits
  rw [he]
  have hw : (Lit.int .i64 v).wf = true := by
    have h2 : IntKind.i64.min = -9223372036854775808 := rfl
    have h3 : IntKind.i64.max = 9223372036854775807 := rfl
    simp [Lit.wf, h2, h3]; omega
  simp [hw]
theorem si_height (seed : List UInt8) (h n m : Int) (hs : seed.length = 16) : (siCells seed h n).set 16 (.int .i64 m) = siCells seed m n := by
  unfold siCells
  rw [List.set_append_right _ _ (by simp [hs])]
  simp [hs]
/-- what Sign gives: the signer, the leaf, the chain, the path, the error -/
structure SgnR where
  si : List Value
  leaf : Int
  chain : List (List UInt8)
  path : List (List UInt8)
  err : Int
def signR (seed d : List UInt8) (h n : Int) : SgnR :=
  if hOk h = false ∨ n < 0 then ⟨siz, 0, [], [], 1⟩
  else if 2 ^ h.toNat ≤ n.toNat then ⟨siz, 0, [], [], 13⟩
  else ⟨siCells seed h (n + 1), n, signS seed n d, pathS seed h.toNat n.toNat, 0⟩
def SgnPost (R : SgnR) (w : World) (e : Ending) (w' : World) : Prop :=
  ∃ Ac cc Ap cp, e = .returned (.tuple #[.agg R.si.toArray, .agg (sgCells R.leaf Ac R.chain.length cc Ap R.path.length cp).toArray, .int .i64 R.err]) ∧
    Els w' w'.heap.size 16 Ac R.chain.length (hvs R.chain) ∧ Els w' w'.heap.size 16 Ap R.path.length (hvs R.path) ∧ Below w.heap.size w w'
theorem SgnPost.none (si : List Value) (err : Int) {w w' : World} {e : Ending} (he : e = .returned (.tuple #[.agg si.toArray, .agg sgz.toArray, .int .i64 err])) (hb : Below w.heap.size w w') : SgnPost ⟨si, 0, [], [], err⟩ w e w' :=
  ⟨Option.none, 0, Option.none, 0, he, Els.nil, Els.nil, hb⟩
theorem SgnPost.made {seed d : List UInt8} {kh kn : Nat} {tid : TypeId} {w w' : World} {e : Ending} (h : SignOk seed d kh kn tid w e w') (hn : kn < 2 ^ kh) : SgnPost ⟨siCells seed kh ((kn : Int) + 1), kn, signS seed kn d, pathS seed kh kn, 0⟩ w e w' := by
  obtain ⟨Ac, cc, Ap, cp, B, rfl, h1, h2, h3, h4, h5, h6⟩ := h
  refine ⟨Ac, cc, Ap, cp, ?_, ?_, ?_, h6⟩
  · show _ = Ending.returned (.tuple #[_, .agg (sgCells _ Ac (signS seed kn d).length cc Ap (pathS seed kh kn).length cp).toArray, _])
    rw [signS_len, pathS_len]
  · show Els w' w'.heap.size 16 Ac (signS seed kn d).length _
    rw [signS_len]
    exact Els.of h3 (hvs_each (signS_each _ _ _)) (by rw [hvs_len, signS_len])
  · show Els w' w'.heap.size 16 Ap (pathS seed kh kn).length _
    rw [pathS_len]
    exact Els.of h5 (hvs_each (pathS_each seed kh kn hn)) (by rw [hvs_len, pathS_len])
structure SgnOk (R : SgnR) : Prop where
  si : ∃ s h n, R.si = siCells s h n ∧ s.length = 16 ∧ (0 ≤ h ∧ h ≤ 6) ∧ 0 ≤ n ∧ n ≤ 64
  chain : ∀ x ∈ R.chain, x.length = 16
  path : ∀ x ∈ R.path, x.length = 16
  nc : R.chain.length ≤ 68
  np : R.path.length ≤ 6
theorem signR_ok (seed d : List UInt8) (h n : Int) (hs : seed.length = 16) : SgnOk (signR seed d h n) := by
  have hz : ∃ (s : List UInt8) (h n : Int), siz = siCells s h n ∧ s.length = 16 ∧ (0 ≤ h ∧ h ≤ 6) ∧ 0 ≤ n ∧ n ≤ 64 := ⟨List.replicate 16 0, 0, 0, rfl, rfl, by decide, by decide, by decide⟩
  unfold signR
  split
  · exact ⟨hz, by simp, by simp, by simp, by simp⟩
  · rename_i h1
    split
    · exact ⟨hz, by simp, by simp, by simp, by simp⟩
    · rename_i h2
      have h3 : hOk h = true := by cases hq : hOk h <;> simp_all
      obtain ⟨h4, h5⟩ := (hOk_iff h).1 h3
      have h6 : ¬ n < 0 := fun e => h1 (.inr e)
      have h7 := (pow_le64 h.toNat (by omega)).2
      exact ⟨⟨seed, h, n + 1, rfl, hs, ⟨h4, h5⟩, by omega, by omega⟩, signS_each _ _ _, pathS_each _ _ _ (by omega), by rw [signS_len]; omega, by rw [pathS_len]; omega⟩
end Go.Adm
namespace Go.Proofs.Ytlnbeglelhdjfaa
open Go Go.RowKit Go.Adm

theorem kl_si (seed : List UInt8) (h n : Int) (hs : seed.length = 16) (h0 : 0 ≤ h) (h1 : h ≤ 6) (n0 : 0 ≤ n) (n1 : n ≤ 64) : Try.prog.keyLits 3 25 (siCells seed h n) = some (seed.map bl ++ [.int .i64 h, .int .i64 n]) := by
  have e1 : (siCells seed h n).take 16 = seed.map bv := by rw [siCells, List.take_append_of_le_length (by simp [hs]), List.take_of_length_le (by simp [hs])]
  have e2 : ((siCells seed h n).drop 16).take 1 = [.int .i64 h] := by rw [siCells, List.drop_append_of_le_length (by simp [hs]), List.drop_eq_nil_of_le (by simp [hs])]; rfl
  have e3 : ((siCells seed h n).drop 17).take 1 = [.int .i64 n] := by rw [siCells, List.drop_append, List.drop_eq_nil_of_le (by simp [hs]), List.length_map, hs]; rfl
  have k1 := kl_bytes (P := Try.prog) Try.underlying23 Try.underlying5 (by kernel_rfl) (by kernel_rfl) seed hs
  have k2 := kl_i64 (P := Try.prog) Try.underlying3 h (by omega) (by omega) 1
  have k3 := kl_i64 (P := Try.prog) Try.underlying3 n (by omega) (by omega) 1
  have c1 : Try.prog.cellsOf 25 = 18 := by kernel_rfl
  have c2 : Try.prog.cellsOf 23 = 16 := by kernel_rfl
  have c3 : Try.prog.cellsOf 3 = 1 := by kernel_rfl
  unfold Program.keyLits
  rw [Try.underlying25]
  simp [si_len seed h n hs, c1, c2, c3, List.mapM_cons, e2, e3, k1, k2, k3, e1]
theorem kl_pk (h : Int) (r : List UInt8) (hr : r.length = 16) (h0 : 0 ≤ h) (h1 : h ≤ 6) : Try.prog.keyLits 3 40 (pkCells h r) = some (.int .i64 h :: r.map bl) := by
  have e1 : (pkCells h r).take 1 = [.int .i64 h] := by simp [pkCells]
  have e2 : (pkCells h r).tail.take 16 = r.map bv := by rw [pkCells, List.tail_cons, List.take_of_length_le (by simp [hr])]
  have k1 := kl_bytes (P := Try.prog) Try.underlying23 Try.underlying5 (by kernel_rfl) (by kernel_rfl) r hr
  have k2 := kl_i64 (P := Try.prog) Try.underlying3 h (by omega) (by omega) 1
  have c1 : Try.prog.cellsOf 40 = 17 := by kernel_rfl
  have c2 : Try.prog.cellsOf 23 = 16 := by kernel_rfl
  have c3 : Try.prog.cellsOf 3 = 1 := by kernel_rfl
  unfold Program.keyLits
  rw [Try.underlying40]
  simp [pk_len h r hr, c1, c2, c3, List.mapM_cons, e1, e2, k1, k2]
theorem fm_si (seed : List UInt8) (h n : Int) (hs : seed.length = 16) : (Value.agg (siCells seed h n).toArray).formed Try.prog 25 = true := by
  have hl := si_len seed h n hs
  generalize siCells seed h n = l at *
  have hc : Try.prog.cellsOf 25 = 18 := by kernel_rfl
  simp [Value.formed, Try.underlying25, hl, hc]
theorem fm_pk (h : Int) (r : List UInt8) (hr : r.length = 16) : (Value.agg (pkCells h r).toArray).formed Try.prog 40 = true := by
  have hl := pk_len h r hr
  generalize pkCells h r = l at *
  have hc : Try.prog.cellsOf 40 = 17 := by kernel_rfl
  simp [Value.formed, Try.underlying40, hl, hc]
theorem eq_si (w : World) (seed : List UInt8) (h n : Int) (hs : seed.length = 16) (h0 : 0 ≤ h) (h1 : h ≤ 6) (n0 : 0 ≤ n) (n1 : n ≤ 64) : (binOp .eql 25 (.agg (siCells seed h n).toArray) (.agg (siCells seed h n).toArray)).run Try.prog w = .ok (.bool true) w :=
  run_eq_deep w 3 25 (by decide) (by kernel_rfl) (fm_si seed h n hs) (fm_si seed h n hs) (kl_si seed h n hs h0 h1 n0 n1) (kl_si seed h n hs h0 h1 n0 n1) _ (by simp)
theorem eq_pk (w : World) (h : Int) (r : List UInt8) (hr : r.length = 16) (h0 : 0 ≤ h) (h1 : h ≤ 6) : (binOp .eql 40 (.agg (pkCells h r).toArray) (.agg (pkCells h r).toArray)).run Try.prog w = .ok (.bool true) w :=
  run_eq_deep w 3 40 (by decide) (by kernel_rfl) (fm_pk h r hr) (fm_pk h r hr) (kl_pk h r hr h0 h1) (kl_pk h r hr h0 h1) _ (by simp)
theorem Sign_all (w : World) (seed d : List UInt8) (h n : Int) (hs : seed.length = 16) (hd : d.length = 32) :
    Calls Try.prog 8 #[.agg (siCells seed h n).toArray, .agg (d.map bv).toArray] w (SgnPost (signR seed d h n) w) := by
  unfold signR
  split
  · rename_i h1
    exact (Sign_bad w seed d h n hs hd h1).mono fun e w' ⟨he, hb⟩ => SgnPost.none siz 1 he hb
  · rename_i h1
    have h3 : hOk h = true := by cases hq : hOk h <;> simp_all
    obtain ⟨h4, h5⟩ := (hOk_iff h).1 h3
    have h6 : ¬ n < 0 := fun e => h1 (.inr e)
    obtain ⟨kh, rfl⟩ := Int.eq_ofNat_of_zero_le h4
    obtain ⟨kn, rfl⟩ := Int.eq_ofNat_of_zero_le (by omega : 0 ≤ n)
    simp only [Int.toNat_natCast]
    split
    · rename_i h2
      exact (Sign_full w seed d kh kn hs hd (by omega) h2).mono fun e w' ⟨he, hb⟩ => SgnPost.none siz 13 he hb
    · rename_i h2
      exact (Sign_make w seed d kh kn hs hd (by omega) (by omega)).mono fun e w' h => SgnPost.made h (by omega)
theorem refSign_all (w : World) (seed d : List UInt8) (h n : Int) (hs : seed.length = 16) (hd : d.length = 32) :
    Calls Try.prog 9 #[.agg (siCells seed h n).toArray, .agg (d.map bv).toArray] w (SgnPost (signR seed d h n) w) := by
  unfold signR
  split
  · rename_i h1
    exact (refSign_bad w seed d h n hs hd h1).mono fun e w' ⟨he, hb⟩ => SgnPost.none siz 1 he hb
  · rename_i h1
    have h3 : hOk h = true := by cases hq : hOk h <;> simp_all
    obtain ⟨h4, h5⟩ := (hOk_iff h).1 h3
    have h6 : ¬ n < 0 := fun e => h1 (.inr e)
    obtain ⟨kh, rfl⟩ := Int.eq_ofNat_of_zero_le h4
    obtain ⟨kn, rfl⟩ := Int.eq_ofNat_of_zero_le (by omega : 0 ≤ n)
    simp only [Int.toNat_natCast]
    split
    · rename_i h2
      exact (refSign_full w seed d kh kn hs hd (by omega) h2).mono fun e w' ⟨he, hb⟩ => SgnPost.none siz 13 he hb
    · rename_i h2
      exact (refSign_make w seed d kh kn hs hd (by omega) (by omega)).mono fun e w' h => SgnPost.made h (by omega)
end Go.Proofs.Ytlnbeglelhdjfaa

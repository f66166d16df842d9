/- Sign with rows of its own; pieces for the laws that sign. -/
import Derived.Test.YtlnbeglelhdjfaaKey31
import Derived.Test.YtlnbeglelhdjfaaLate
set_option linter.unusedSimpArgs false
set_option linter.unusedVariables false
namespace Go.Adm
open Go Go.RowKit
def SgnOwn (R : SgnR) (tid : TypeId) (w : World) (e : Ending) (w' : World) : Prop :=
  ∃ Ac cc Ap cp, e = .returned (.tuple #[.agg R.si.toArray, .agg (sgCells R.leaf Ac R.chain.length cc Ap R.path.length cp).toArray, .int .i64 R.err]) ∧
    Own w' w.heap.size tid 16 Ac R.chain.length cc (hvs R.chain).flatten ∧ Own w' w.heap.size tid 16 Ap R.path.length cp (hvs R.path).flatten ∧
    (∀ b, (Value.slice Ac R.chain.length cc).ownBlock = some b → (Value.slice Ap R.path.length cp).ownBlock ≠ some b) ∧ Below w.heap.size w w'
theorem SgnOwn.none (si : List Value) (err : Int) {tid : TypeId} {w w' : World} {e : Ending} (he : e = .returned (.tuple #[.agg si.toArray, .agg sgz.toArray, .int .i64 err])) (hb : Below w.heap.size w w') : SgnOwn ⟨si, 0, [], [], err⟩ tid w e w' :=
  ⟨Option.none, 0, Option.none, 0, he, Own.nil _ _ _ _, Own.nil _ _ _ _, fun _ h => (by cases h), hb⟩
theorem SgnOwn.made {seed d : List UInt8} {kh kn : Nat} {tid : TypeId} {w w' : World} {e : Ending} (h : SignOk seed d kh kn tid w e w') : SgnOwn ⟨siCells seed kh ((kn : Int) + 1), kn, signS seed kn d, pathS seed kh kn, 0⟩ tid w e w' := by
  obtain ⟨Ac, cc, Ap, cp, B, rfl, h1, h2, h3, h4, h5, h6⟩ := h
  refine ⟨Ac, cc, Ap, cp, ?_, ?_, ?_, ?_, h6⟩
  · show _ = Ending.returned (.tuple #[_, .agg (sgCells _ Ac (signS seed kn d).length cc Ap (pathS seed kh kn).length cp).toArray, _])
    rw [signS_len, pathS_len]
  · show Own w' w.heap.size tid 16 Ac (signS seed kn d).length cc _
    rw [signS_len]
    exact h3
  · show Own w' w.heap.size tid 16 Ap (pathS seed kh kn).length cp _
    rw [pathS_len]
    exact h5.less h1
  · intro b hb e
    have hb' : (Value.slice Ac 68 cc).ownBlock = some b := hb
    have := h4 b hb'
    have e' : (Value.slice Ap kh cp).ownBlock = some b := by cases Ap <;> exact e
    have := (h5.lt e').1
    omega
/-- what Sign gives, as the value of an operation: the three; the signature alone -/
def VF.sgn (base : Nat) (tid : TypeId) (R : SgnR) : VF := .gen (fun w v => base ≤ w.heap.size ∧ ∃ Ac cc Ap cp, v = .tuple #[.agg R.si.toArray, .agg (sgCells R.leaf Ac R.chain.length cc Ap R.path.length cp).toArray, .int .i64 R.err] ∧
    Own w base tid 16 Ac R.chain.length cc (hvs R.chain).flatten ∧ Own w base tid 16 Ap R.path.length cp (hvs R.path).flatten ∧ ∀ b, (Value.slice Ac R.chain.length cc).ownBlock = some b → (Value.slice Ap R.path.length cp).ownBlock ≠ some b)
  fun _ _ _ hg ⟨hb, Ac, cc, Ap, cp, hv, h1, h2, h3⟩ =>
    ⟨Nat.le_trans hb hg.size, Ac, cc, Ap, cp, hv, Res.step (r := .own base tid 16 Ac _ cc _) hg h1 (Res.apart_none _), Res.step (r := .own base tid 16 Ap _ cp _) hg h2 (Res.apart_none _), h3⟩
def VF.sgc (base : Nat) (tid : TypeId) (R : SgnR) : VF := .gen (fun w v => base ≤ w.heap.size ∧ ∃ Ac cc Ap cp, v = .agg (sgCells R.leaf Ac R.chain.length cc Ap R.path.length cp).toArray ∧
    Own w base tid 16 Ac R.chain.length cc (hvs R.chain).flatten ∧ Own w base tid 16 Ap R.path.length cp (hvs R.path).flatten ∧ ∀ b, (Value.slice Ac R.chain.length cc).ownBlock = some b → (Value.slice Ap R.path.length cp).ownBlock ≠ some b)
  fun _ _ _ hg ⟨hb, Ac, cc, Ap, cp, hv, h1, h2, h3⟩ =>
    ⟨Nat.le_trans hb hg.size, Ac, cc, Ap, cp, hv, Res.step (r := .own base tid 16 Ac _ cc _) hg h1 (Res.apart_none _), Res.step (r := .own base tid 16 Ap _ cp _) hg h2 (Res.apart_none _), h3⟩
theorem Els.row {w : World} {B n size : Nat} {A : Option Addr} {hs : List (List UInt8)} (h : Els w B size A n (hvs hs)) {k : Nat} (hk : k < hs.length) :
    ∃ ad, A = some ad ∧ ad.block < B ∧ ∀ j u, (hs[k].map bv)[j]? = some u → w.cell? ((ad.add (k * size)).add j) = some u := by
  obtain ⟨ad, e, hb, hc⟩ := h.at_ (k := k) (by rw [hvs_len]; exact hk)
  rw [hvs_at hs hk] at hc
  exact ⟨ad, e, hb, hc⟩
theorem signR_make (seed d : List UInt8) (kh kn : Nat) (hk : kh ≤ 6) (hn : kn < 2 ^ kh) : signR seed d kh kn = ⟨siCells seed kh ((kn : Int) + 1), kn, signS seed kn d, pathS seed kh kn, 0⟩ := by
  have h1 : hOk (kh : Int) = true := (hOk_iff _).2 ⟨by omega, by omega⟩
  unfold signR
  rw [if_neg (by simp [h1]), if_neg (by simp only [Int.toNat_natCast]; omega)]
  simp only [Int.toNat_natCast]
theorem signR_full (seed d : List UInt8) (kh kn : Nat) (hk : kh ≤ 6) (hn : 2 ^ kh ≤ kn) : signR seed d kh kn = ⟨siz, 0, [], [], 13⟩ := by
  have h1 : hOk (kh : Int) = true := (hOk_iff _).2 ⟨by omega, by omega⟩
  unfold signR
  rw [if_neg (by simp [h1]), if_pos (by simp only [Int.toNat_natCast]; exact hn)]
theorem Cells.ne {w : World} {g g' : Nat} {t t' : TypeId} {cs cs' : List Value} (h : Cells w g t cs) (h' : Cells w g' t' cs') (ht : t ≠ t') : g ≠ g' := fun e => by
  subst e
  have h1 : some (Obj.cells cs.toArray t (0, 0)) = some (.cells cs'.toArray t' (0, 0)) := h.symm.trans h'
  injection h1 with h1
  injection h1 with _ h2
  exact ht h2
theorem wp_bld {P : Program} {o : Oper} {a : Act} {w : World} {K : Act → World → Prop} {Q : Exit → Act → World → Prop} (t : TypeId) (parts : List (Nat × Operand)) (ho : o.op = .build t parts.toArray)
    (fields : Array Field) (z : Value) (places : Array (Nat × Nat)) (cells : Array Value)
    (hz : ∀ w, (zeroValue t).run P w = .ok z w) (hu : P.underlying t = some (.struct fields)) (hp : ∀ w, (placesOf fields).run P w = .ok places w)
    (hf : Instr.fill (places[·]?) z.cells (parts.map fun x => (x.1, a.eval x.2)) = some cells)
    (h : K (a.put o.dst (.agg cells)) w) : o.wp P a w K Q := by
  have hf' : Instr.fill (places[·]?) z.cells ((parts.toArray.map fun (i, x) => (i, a.eval x)).toList) = some cells := by
    rw [Array.toList_map]; exact hf
  unfold Oper.wp execOp
  simp only [ho, Sem.run_bind, run_build_struct w t fields z places _ cells (hz w) hu (hp w) hf', Result.andThen_ok]
  exact h
theorem fill_si (seed : List UInt8) (h n : Int) (hs : seed.length = 16) : Instr.fill (#[(0, 16), (16, 1), (17, 1)][·]?) siz.toArray [(0, .agg (seed.map bv).toArray), (1, .int .i64 h), (2, .int .i64 n)] = some (siCells seed h n).toArray := by
  refine (fill_step (off := 0) (size := 16) (es := seed.map bv) (pre := []) (old := List.replicate 16 (Value.int .u8 0)) (post := [.int .i64 0, .int .i64 0]) rfl rfl rfl rfl rfl (by simp [hs])).trans ?_
  refine (fill_step (off := 16) (size := 1) (es := [.int .i64 h]) (pre := seed.map bv) (old := [.int .i64 0]) (post := [.int .i64 0]) rfl (by simp) (by simp [hs]) rfl rfl rfl).trans ?_
  refine (fill_step (off := 17) (size := 1) (es := [.int .i64 n]) (pre := seed.map bv ++ [.int .i64 h]) (old := [.int .i64 0]) (post := []) rfl (by simp) (by simp [hs]) rfl rfl rfl).trans ?_
  simp [Instr.fill, siCells]
theorem fill_si0 (seed : List UInt8) (h : Int) (hs : seed.length = 16) : Instr.fill (#[(0, 16), (16, 1), (17, 1)][·]?) siz.toArray [(0, .agg (seed.map bv).toArray), (1, .int .i64 h)] = some (siCells seed h 0).toArray := by
  refine (fill_step (off := 0) (size := 16) (es := seed.map bv) (pre := []) (old := List.replicate 16 (Value.int .u8 0)) (post := [.int .i64 0, .int .i64 0]) rfl rfl rfl rfl rfl (by simp [hs])).trans ?_
  refine (fill_step (off := 16) (size := 1) (es := [.int .i64 h]) (pre := seed.map bv) (old := [.int .i64 0]) (post := [.int .i64 0]) rfl (by simp) (by simp [hs]) rfl rfl rfl).trans ?_
  simp [Instr.fill, siCells]
end Go.Adm
namespace Go.Proofs.Ytlnbeglelhdjfaa
open Go Go.RowKit Go.Adm

theorem ne_si (w : World) (seed : List UInt8) (h n : Int) (hs : seed.length = 16) (h0 : 0 ≤ h) (h1 : h ≤ 6) (n0 : 0 ≤ n) (n1 : n ≤ 64) : (binOp .neq 25 (.agg (siCells seed h n).toArray) (.agg (siCells seed h n).toArray)).run Try.prog w = .ok (.bool false) w := by
  have h := eq_si w seed h n hs h0 h1 n0 n1
  rw [run_eql_struct] at h
  rw [run_neq_struct]
  revert h
  generalize (Op.equalIn 10000 25 _ _).run Try.prog w = q
  intro h
  cases q with
  | ok b w' =>
    simp only [Result.andThen, Result.ok.injEq, Value.bool.injEq] at h ⊢
    exact ⟨by rw [h.1]; rfl, h.2⟩
  | _ => simp [Result.andThen] at h
theorem Sign_own (w : World) (seed d : List UInt8) (h n : Int) (hs : seed.length = 16) (hd : d.length = 32) :
    Calls Try.prog 8 #[.agg (siCells seed h n).toArray, .agg (d.map bv).toArray] w (SgnOwn (signR seed d h n) 23 w) := by
  unfold signR
  split
  · rename_i h1
    exact (Sign_bad w seed d h n hs hd h1).mono fun e w' ⟨he, hb⟩ => SgnOwn.none siz 1 he hb
  · rename_i h1
    have h3 : hOk h = true := by cases hq : hOk h <;> simp_all
    obtain ⟨h4, h5⟩ := (hOk_iff h).1 h3
    have h6 : ¬ n < 0 := fun e => h1 (.inr e)
    obtain ⟨kh, rfl⟩ := Int.eq_ofNat_of_zero_le h4
    obtain ⟨kn, rfl⟩ := Int.eq_ofNat_of_zero_le (by omega : 0 ≤ n)
    simp only [Int.toNat_natCast]
    split
    · rename_i h2
      exact (Sign_full w seed d kh kn hs hd (by omega) h2).mono fun e w' ⟨he, hb⟩ => SgnOwn.none siz 13 he hb
    · rename_i h2
      exact (Sign_make w seed d kh kn hs hd (by omega) (by omega)).mono fun e w' h => SgnOwn.made h
theorem refSign_own (w : World) (seed d : List UInt8) (h n : Int) (hs : seed.length = 16) (hd : d.length = 32) :
    Calls Try.prog 9 #[.agg (siCells seed h n).toArray, .agg (d.map bv).toArray] w (SgnOwn (signR seed d h n) 23 w) := by
  unfold signR
  split
  · rename_i h1
    exact (refSign_bad w seed d h n hs hd h1).mono fun e w' ⟨he, hb⟩ => SgnOwn.none siz 1 he hb
  · rename_i h1
    have h3 : hOk h = true := by cases hq : hOk h <;> simp_all
    obtain ⟨h4, h5⟩ := (hOk_iff h).1 h3
    have h6 : ¬ n < 0 := fun e => h1 (.inr e)
    obtain ⟨kh, rfl⟩ := Int.eq_ofNat_of_zero_le h4
    obtain ⟨kn, rfl⟩ := Int.eq_ofNat_of_zero_le (by omega : 0 ≤ n)
    simp only [Int.toNat_natCast]
    split
    · rename_i h2
      exact (refSign_full w seed d kh kn hs hd (by omega) h2).mono fun e w' ⟨he, hb⟩ => SgnOwn.none siz 13 he hb
    · rename_i h2
      exact (refSign_make w seed d kh kn hs hd (by omega) (by omega)).mono fun e w' h => SgnOwn.made h
end Go.Proofs.Ytlnbeglelhdjfaa

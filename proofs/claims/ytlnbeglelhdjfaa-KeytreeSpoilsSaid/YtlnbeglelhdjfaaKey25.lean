/- What is signed verifies: the plain law. -/
import Derived.Test.YtlnbeglelhdjfaaKeyM1
set_option linter.unusedSimpArgs false
set_option linter.unusedVariables false
namespace Go.Adm
open Go Go.RowKit
def sibF (seed : List UInt8) (kh kn k : Nat) : List UInt8 := (lvl 0 (leavesS seed kh) k).getD (kn / 2 ^ k ^^^ 1) []
def pathS (seed : List UInt8) (kh kn : Nat) : List (List UInt8) := (List.range kh).map (sibF seed kh kn)
theorem pathS_len (seed : List UInt8) (kh kn : Nat) : (pathS seed kh kn).length = kh := by simp [pathS]
theorem pathS_succ (seed : List UInt8) (kh kn k : Nat) (hk : k < kh) : (pathS seed kh kn).take (k + 1) = (pathS seed kh kn).take k ++ [sibF seed kh kn k] := by
  rw [List.take_succ_eq_append_getElem (by rw [pathS_len]; exact hk)]
  simp [pathS]
theorem climbN_add (x : List UInt8) (l c f : Int) (m : Nat) : ∀ n, climbN (climbN x l c f m) l c (f + m) n = climbN x l c f (m + n)
  | 0 => rfl
  | n + 1 => by
    rw [climbN, climbN_add x l c f m n, ← Nat.add_assoc, climbN]
    congr 1
    omega
theorem climbS_up (x : List UInt8) (l c : Int) (t : Nat) (ht : t ≤ 3) : climbS (climbS x l c 0 (t : Int)) l c (t : Int) 3 = climbS x l c 0 3 := by
  have h1 : climbS x l c 0 (t : Int) = climbN x l c 0 t := by
    unfold climbS
    rw [if_neg (by omega)]
    congr 1
  rw [h1]
  unfold climbS
  rw [if_neg (by omega), if_neg (by omega)]
  have h2 := climbN_add x l c 0 t (3 - t)
  rw [show (0 : Int) + (t : Int) = (t : Int) from by omega] at h2
  rw [show ((3 : Int) - (t : Int)).toNat = 3 - t from by omega, h2]
  congr 1
  omega
theorem rec_sign (seed : List UInt8) (leaf : Int) (d : List UInt8) : recS leaf d (signS seed leaf d) = publicS seed leaf := by
  unfold recS publicS list68
  congr 1
  refine List.map_congr_left fun i hi => ?_
  have hi' : i < 68 := by simpa using hi
  unfold recF
  have h1 : (signS seed leaf d).getD i [] = signF seed leaf d i := by simp [signS, list68, List.getD, hi']
  rw [h1]
  unfold signF
  exact climbS_up _ _ _ _ (by have := (dgt d i).isLt; omega)
theorem xor_one (i : Nat) : i ^^^ 1 = if i % 2 = 0 then i + 1 else i - 1 := by
  have h1 : (i ^^^ 1) / 2 = i / 2 := by rw [Nat.xor_div_two]; simp
  have h2 := @Nat.xor_mod_two_eq_one i 1
  split <;> omega
theorem pathF_up (k i : Nat) (L : List (List UInt8)) (hi : i / 2 < L.length / 2) : pathF k i (L.getD i []) (L.getD (i ^^^ 1) []) = (upS k L).getD (i / 2) [] := by
  have h1 : (upS (k : Int) L).getD (i / 2) [] = upF k L (i / 2) := by simp [upS, List.getD, hi]
  rw [h1, xor_one]
  unfold pathF upF
  split
  · rw [show 2 * (i / 2) = i from by omega]
  · rw [show 2 * (i / 2) = i - 1 from by omega, show i - 1 + 1 = i from by omega]
theorem path_lvl (seed : List UInt8) (kh kn : Nat) (hn : kn < 2 ^ kh) : ∀ k, k ≤ kh → pathN (publicS seed kn) kn (pathS seed kh kn) k = (lvl 0 (leavesS seed kh) k).getD (kn / 2 ^ k) []
  | 0, _ => by simp [pathN, lvl, leavesS, List.getD, hn]
  | k + 1, hk => by
    rw [pathN, path_lvl seed kh kn hn k (by omega)]
    have h1 : (pathS seed kh kn).getD k [] = sibF seed kh kn k := by simp [pathS, List.getD, show k < kh from by omega]
    have hl : (lvl 0 (leavesS seed kh) k).length = 2 ^ (kh - k) := lvl_len 0 (leavesS seed kh) kh (by simp [leavesS]) k (by omega)
    have h2 : 2 ^ (kh - k) = 2 ^ (kh - (k + 1)) * 2 := by rw [← Nat.pow_succ]; congr 1; omega
    have h3 : kn / 2 ^ (k + 1) < 2 ^ (kh - (k + 1)) := by
      apply Nat.div_lt_of_lt_mul
      rw [← Nat.pow_add, show k + 1 + (kh - (k + 1)) = kh from by omega]
      exact hn
    have h4 : kn / 2 ^ k / 2 = kn / 2 ^ (k + 1) := by rw [Nat.div_div_eq_div_mul, Nat.pow_succ]
    rw [h1, sibF, pathF_up _ _ _ (by rw [h4, hl, h2]; omega), h4]
    show (upS (k : Int) _).getD _ _ = (upS (0 + (k : Int)) _).getD _ _
    rw [Int.zero_add]
theorem signed_verifies (seed d : List UInt8) (kh kn : Nat) (hh : kh ≤ 6) (hn : kn < 2 ^ kh) : verifyB kh kn (rootS seed kh) d (signS seed kn d) (pathS seed kh kn) = true := by
  unfold verifyB
  rw [Bool.and_eq_true]
  constructor
  · rw [shapedB_iff]
    refine ⟨⟨by omega, by omega⟩, by omega, ?_, by simp [signS, list68_len], by rw [pathS_len]⟩
    rw [Int.toNat_natCast]
    exact_mod_cast hn
  · rw [rec_sign, Int.toNat_natCast, pathS_len, path_lvl seed kh kn hn kh (Nat.le_refl _), Nat.div_eq_of_lt hn]
    simp [rootS]
/-- all levels of a tree, as a fact about what lies below B -/
def LvlB (B : Nat) (w : World) (v : Value) (l : List (List UInt8)) : Prop := ∃ A c, v = .slice A l.length c ∧ Els w B 16 A l.length (hvs l)
theorem LvlB.keep {B : Nat} {w w' : World} {v : Value} {l : List (List UInt8)} (h : LvlB B w v l) (hk : ∀ p : Addr, p.block < B → w'.cell? p = w.cell? p) : LvlB B w' v l := by
  obtain ⟨A, c, e, h1⟩ := h
  exact ⟨A, c, e, h1.keep hk⟩
def Low.tree (B : Nat) (A : Option Addr) (n : Nat) (vs : List Value) (ls : List (List (List UInt8))) : Low :=
  ⟨B, fun w => Rd w B 1 A n vs ∧ All2 (LvlB B w) vs ls, fun _ _ hk h => ⟨h.1.keep hk, h.2.imp_mem fun _ _ _ h2 => h2.keep hk⟩⟩
theorem All2.idx {α β : Type} {R : α → β → Prop} {xs : List α} {ys : List β} (h : All2 R xs ys) : ∀ {k : Nat} {y : β}, ys[k]? = some y → ∃ x, xs[k]? = some x ∧ R x y := by
  induction h with
  | nil => intro k y hy; simp at hy
  | cons hr _ ih =>
    intro k y hy
    cases k with
    | zero =>
      simp only [List.getElem?_cons_zero, Option.some.injEq] at hy
      subst hy
      exact ⟨_, rfl, hr⟩
    | succ k =>
      simp only [List.getElem?_cons_succ] at hy ⊢
      exact ih hy
theorem lvls_at (level : Int) (l : List (List UInt8)) (j k : Nat) (hk : k ≤ j) : (lvls level l j)[k]? = some (lvl level l k) := by simp [lvls, show k < j + 1 from by omega]
/-- all levels of a tree, within a band of blocks -/
def TreeIn (lo hi : Nat) (A : Option Addr) (n : Nat) (vs : List Value) (ls : List (List (List UInt8))) (w : World) : Prop :=
  (∀ ad, A = some ad → lo ≤ ad.block) ∧ (∀ v ∈ vs, ∀ A n c, v = .slice A n c → ∀ ad, A = some ad → lo ≤ ad.block) ∧ Rd w hi 1 A n vs ∧ All2 (LvlB hi w) vs ls
theorem block_of_cell {w : World} {p : Addr} {v : Value} (h : w.cell? p = some v) : p.block < w.heap.size := by
  rcases Nat.lt_or_ge p.block w.heap.size with h1 | h1
  · exact h1
  · unfold World.cell? at h
    rw [Array.getElem?_eq_none h1] at h
    cases h
theorem TreeIn.nest {w : World} {lo hi : Nat} {A : Option Addr} {n : Nat} {vs : List Value} {ls : List (List (List UInt8))} (e : TypeId) (size : Nat) (h : TreeIn lo hi A n vs ls w) (hh : hi ≤ w.heap.size) :
    Nest w lo e size none 0 0 [] 0 (fun b => lo ≤ b ∧ b < hi) (TreeIn lo hi A n vs ls) := by
  refine Nest.of (Go.Adm.Own.nil _ _ _ _) h (fun w w' hs hb ht => ?_) fun b hb => ⟨hb.1, Nat.lt_of_lt_of_le hb.2 hh, fun e => by cases e⟩
  obtain ⟨h1, h2, h3, h4⟩ := ht
  have hk : ∀ b, lo ≤ b ∧ b < hi → b < w.heap.size → w'.heap[b]? = w.heap[b]? := fun b hq hlt => hb b (.inr hq) hlt
  have rd : ∀ {size n : Nat} {A : Option Addr} {xs : List Value}, Rd w hi size A n xs → (∀ ad, A = some ad → lo ≤ ad.block) → Rd w' hi size A n xs := fun {size n A xs} hr ha => by
    refine ⟨hr.len, fun hn => ?_⟩
    obtain ⟨ad, e, hlt, hc⟩ := hr.at_ hn
    refine ⟨ad, e, hlt, fun j u hu => ?_⟩
    have hcu := hc j u hu
    have hl := block_of_cell hcu
    rw [add_block] at hl
    rw [World.cell?_of_block (w := w) (hk _ (by rw [add_block]; exact ⟨ha ad e, hlt⟩) (by rw [add_block]; exact hl))]
    exact hcu
  refine ⟨h1, h2, rd h3 h1, h4.imp_mem fun v hv l hl => ?_⟩
  obtain ⟨A', c', rfl, hE⟩ := hl
  exact ⟨A', c', rfl, ⟨rd hE.rd (h2 _ hv _ _ _ rfl), hE.each, hE.len⟩⟩
theorem lvl_sib (seed : List UInt8) (kh kn k : Nat) (hk : k < kh) (hn : kn < 2 ^ kh) : kn / 2 ^ k ^^^ 1 < (lvl 0 (leavesS seed kh) k).length := by
  have hl : (lvl 0 (leavesS seed kh) k).length = 2 ^ (kh - k) := lvl_len 0 (leavesS seed kh) kh (by simp [leavesS]) k (by omega)
  have h2 : 2 ^ (kh - k) = 2 ^ (kh - (k + 1)) * 2 := by rw [← Nat.pow_succ]; congr 1; omega
  have h3 : kn / 2 ^ k < 2 ^ (kh - k) := by
    apply Nat.div_lt_of_lt_mul
    rw [← Nat.pow_add, show k + (kh - k) = kh from by omega]
    exact hn
  rw [hl, xor_one]
  rw [h2] at h3 ⊢
  generalize kn / 2 ^ k = i at *
  generalize 2 ^ (kh - (k + 1)) = m at *
  split <;> omega
theorem sibF_at (seed : List UInt8) (kh kn k : Nat) (hk : k < kh) (hn : kn < 2 ^ kh) : sibF seed kh kn k = (lvl 0 (leavesS seed kh) k)[kn / 2 ^ k ^^^ 1]'(lvl_sib seed kh kn k hk hn) := by
  have h := lvl_sib seed kh kn k hk hn
  simp [sibF, List.getD, h]
theorem sibF_len (seed : List UInt8) (kh kn k : Nat) (hk : k < kh) (hn : kn < 2 ^ kh) : (sibF seed kh kn k).length = 16 := by
  rw [sibF_at seed kh kn k hk hn]
  exact lvl_each 0 _ (leavesS_each seed kh) k _ (List.getElem_mem _)
theorem TreeIn.sib {lo hi kh kn k : Nat} {A : Option Addr} {vs : List Value} {seed : List UInt8} {W : World} (h : TreeIn lo hi A (kh + 1) vs (lvls 0 (leavesS seed kh) kh) W) (hk : k < kh) (hn : kn < 2 ^ kh) :
    ∃ ad cl adl, A = some ad ∧ ∀ W', TreeIn lo hi A (kh + 1) vs (lvls 0 (leavesS seed kh) kh) W' → W'.cell? (ad.add k) = some (.slice (some adl) (lvl 0 (leavesS seed kh) k).length cl) ∧
      ∀ j u, ((sibF seed kh kn k).map bv)[j]? = some u → W'.cell? ((adl.add ((kn / 2 ^ k ^^^ 1) * 16)).add j) = some u := by
  have hm := lvl_sib seed kh kn k hk hn
  have key : ∀ W', TreeIn lo hi A (kh + 1) vs (lvls 0 (leavesS seed kh) kh) W' → ∃ ad Al cl adl, A = some ad ∧ vs[k]? = some (.slice Al (lvl 0 (leavesS seed kh) k).length cl) ∧ Al = some adl ∧ W'.cell? (ad.add k) = some (.slice Al (lvl 0 (leavesS seed kh) k).length cl) ∧
      ∀ j u, ((sibF seed kh kn k).map bv)[j]? = some u → W'.cell? ((adl.add ((kn / 2 ^ k ^^^ 1) * 16)).add j) = some u := fun W' ⟨_, _, h3, h4⟩ => by
    obtain ⟨x, hx, Al, cl, rfl, hE⟩ := h4.idx (lvls_at 0 (leavesS seed kh) kh k (by omega))
    obtain ⟨ad, u, e, _, hu, hc⟩ := h3.cell (k := k) (by omega)
    rw [hx] at hu
    obtain rfl := Option.some.inj hu
    obtain ⟨adl, e2, _, hcs⟩ := Els.half hE hm
    exact ⟨ad, Al, cl, adl, e, hx, e2, hc, by rw [sibF_at seed kh kn k hk hn]; exact hcs⟩
  obtain ⟨ad, Al, cl, adl, e1, e2, e3, _, _⟩ := key W h
  refine ⟨ad, cl, adl, e1, fun W' h' => ?_⟩
  obtain ⟨ad', Al', cl', adl', f1, f2, f3, f4, f5⟩ := key W' h'
  rw [e1] at f1
  obtain rfl := Option.some.inj f1
  rw [e2] at f2
  injection f2 with f2
  injection f2 with g1 g2 g3
  subst g1 g3
  rw [e3] at f3 f4
  obtain rfl := Option.some.inj f3
  exact ⟨f4, f5⟩
section
variable {P : Program} {w : World} {rs : List Res}
/-- a whole array is stored, in a region that draws -/
theorem wp_store_at {op : Oper} {a : Act} {K : Act → World → Prop} {Q : Exit → Act → World → Prop} (hR : All w rs) (i : Nat) (ty : TypeId) (x y : Operand) (ho : op.op = .store ty x y)
    (g : Nat) (t : TypeId) (cs : List Value) (vs : List Value) (hC : rs[i]? = some (.cells g t cs)) (hx : a.eval x = .pointer (some ⟨g, 0, none⟩)) (hy : a.eval y = .agg vs.toArray)
    (hl : vs.length = cs.length) (hi : (P.info? ty).map (·.size) = some vs.length) (h1 : ∀ v ∈ vs, v.oneCell' = true) (hap : Apart (some g) (rs.eraseIdx i))
    (h : ∀ w', All w' (rs.set i (.cells g t vs)) → w'.heap.size = w.heap.size → K (a.put op.dst undef) w') : op.wp P a w K Q :=
  have hc : Cells w g t cs := hR.at_ i hC
  wp_store_mid ty x y ho g 0 vs.toArray hx hy (by rw [List.size_toArray, hl]; exact hc.there) (by rw [List.size_toArray]; exact hi) (all_oneCell_toArray h1)
    (h _ (All.upd only_setCells i _ hR (hc.storeAll hl) hap) (size_setCells _ _ _ _))
end
/-- a signature without its path, over a chain of the call's own -/
def VF.sig (base : Nat) (e : TypeId) (kn : Int) (xs : List Value) : VF := .gen (fun w v => base ≤ w.heap.size ∧ ∃ A c, v = .agg (sgCells kn A 68 c none 0 0).toArray ∧ Go.Adm.Own w base e 16 A 68 c xs) fun _ _ _ hg ⟨hb, A, c, hv, h⟩ =>
  ⟨Nat.le_trans hb hg.size, A, c, hv, Res.step (r := .own base e 16 A 68 c xs) hg h (Res.apart_none _)⟩
/-- a block of the call's own, known whole -/
def VF.box (base : Nat) (t : TypeId) (cs : List Value) : VF := .gen (fun w v => ∃ g, v = .pointer (some ⟨g, 0, none⟩) ∧ base ≤ g ∧ Cells w g t cs) fun _ _ _ hg ⟨g, hv, hb, h⟩ =>
  ⟨g, hv, hb, Res.step (r := .cells g t cs) hg h (Res.apart_none _)⟩
theorem Own.ne_cells {w : World} {base size n c g : Nat} {e t : TypeId} {A : Option Addr} {xs cs : List Value} (h : Go.Adm.Own w base e size A n c xs) (hc : Cells w g t cs) (ht : t ≠ e) : (Value.slice A n c).ownBlock ≠ some g := by
  rcases h.2 with ⟨hv, _⟩ | ⟨g', cap, cur, hv, _, hh, _⟩
  · rw [hv]; intro e; cases e
  · rw [hv]
    intro e'
    have e2 : g' = g := by simpa [Value.ownBlock] using e'
    subst e2
    rw [hc] at hh
    injection hh with hh
    injection hh with _ h2
    exact ht h2
theorem si_one (seed : List UInt8) (h n : Int) : ∀ v ∈ siCells seed h n, v.oneCell' = true := by
  intro v hv
  rcases List.mem_append.1 hv with h1 | h1
  · exact bv_one seed v h1
  · simp only [List.mem_cons, List.mem_nil_iff, or_false] at h1
    rcases h1 with rfl | rfl <;> rfl
theorem sg_one (kn : Int) (A : Option Addr) (n c : Nat) (A' : Option Addr) (n' c' : Nat) : ∀ v ∈ sgCells kn A n c A' n' c', v.oneCell' = true := by
  intro v hv
  simp only [sgCells, List.mem_cons, List.mem_nil_iff, or_false] at hv
  rcases hv with rfl | rfl | rfl <;> rfl
theorem si_next (seed : List UInt8) (h n m : Int) (hs : seed.length = 16) : (siCells seed h n).set 17 (.int .i64 m) = siCells seed h m := by
  unfold siCells
  rw [List.set_append_right _ _ (by simp [hs])]
  simp [hs]
theorem si_at16 {w : World} {g : Nat} {t : TypeId} {seed : List UInt8} {h n : Int} (hs : seed.length = 16) (hc : Cells w g t (siCells seed h n)) : w.cell? ⟨g, 16, none⟩ = some (.int .i64 h) :=
  (Cells.cell hc (i := 16) (by simp [siCells, hs])).trans (by simp [siCells, List.getElem_append, hs])
theorem si_at17 {w : World} {g : Nat} {t : TypeId} {seed : List UInt8} {h n : Int} (hs : seed.length = 16) (hc : Cells w g t (siCells seed h n)) : w.cell? ⟨g, 17, none⟩ = some (.int .i64 n) :=
  (Cells.cell hc (i := 17) (by simp [siCells, hs])).trans (by simp [siCells, List.getElem_append, hs])
theorem si_seed {w : World} {g : Nat} {t : TypeId} {seed : List UInt8} {h n : Int} (hs : seed.length = 16) (hc : Cells w g t (siCells seed h n)) : ∀ j u, (seed.map bv)[j]? = some u → w.cell? ((⟨g, 0, none⟩ : Addr).add j) = some u := fun j u hu => by
  obtain ⟨ad, e, _, hc⟩ := (Cells.rd hc (o := 0) (n := 16) (by simp [siCells, hs])).at_ (by omega)
  injection e with e
  subst e
  refine hc j u ?_
  rw [show ((siCells seed h n).drop 0).take 16 = seed.map bv from by rw [List.drop_zero, siCells, List.take_append_of_le_length (by simp [hs]), List.take_of_length_le (by simp [hs])]]
  exact hu
/-- a signature that was made -/
def SignOk (seed d : List UInt8) (kh kn : Nat) (tid : TypeId) (w : World) (e : Ending) (w' : World) : Prop :=
  ∃ Ac cc Ap cp B, e = .returned (.tuple #[.agg (siCells seed kh ((kn : Int) + 1)).toArray, .agg (sgCells kn Ac 68 cc Ap kh cp).toArray, .int .i64 0]) ∧ w.heap.size ≤ B ∧ B ≤ w'.heap.size ∧
    Go.Adm.Own w' w.heap.size tid 16 Ac 68 cc (hvs (signS seed kn d)).flatten ∧ (∀ g, (Value.slice Ac 68 cc).ownBlock = some g → g < B) ∧ Go.Adm.Own w' B tid 16 Ap kh cp (hvs (pathS seed kh kn)).flatten ∧ Below w.heap.size w w'
end Go.Adm

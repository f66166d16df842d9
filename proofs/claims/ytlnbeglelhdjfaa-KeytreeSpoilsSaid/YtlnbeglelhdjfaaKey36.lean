/- The law KeytreeSpoils. -/
import Derived.Test.YtlnbeglelhdjfaaKey33
import Derived.Test.YtlnbeglelhdjfaaKey30
set_option linter.unusedSimpArgs false
set_option linter.unusedVariables false
namespace Go.Adm
open Go Go.RowKit
theorem flat_set {α : Type} {size : Nat} : ∀ (es : List (List α)) (k r : Nat) (u : α), (∀ e ∈ es, e.length = size) → r < size → (es.modify k (·.set r u)).flatten = es.flatten.set (k * size + r) u
  | [], k, r, u, _, _ => by simp
  | e :: es, 0, r, u, he, hr => by
    have h := he e (by simp)
    simp only [List.modify_zero_cons, List.flatten_cons, Nat.zero_mul, Nat.zero_add]
    rw [List.set_append_left _ _ (by omega)]
  | e :: es, k + 1, r, u, he, hr => by
    have h := he e (by simp)
    simp only [List.modify_succ_cons, List.flatten_cons]
    rw [flat_set es k r u (fun x hx => he x (by simp [hx])) hr, List.set_append_right _ _ (by rw [h, Nat.add_mul, Nat.one_mul]; omega)]
    congr 2
    rw [h, Nat.add_mul, Nat.one_mul]; omega
theorem hvs_set (hs : List (List UInt8)) (k r : Nat) (b : UInt8) (h16 : ∀ x ∈ hs, x.length = 16) (hr : r < 16) : (hvs hs).flatten.set (k * 16 + r) (bv b) = (hvs (hs.modify k (·.set r b))).flatten := by
  rw [← flat_set (size := 16) (hvs hs) k r (bv b) (hvs_each h16) hr]
  congr 1
  unfold hvs
  apply List.ext_getElem?
  intro j
  rw [List.getElem?_modify, List.getElem?_map, List.getElem?_map, List.getElem?_modify]
  by_cases hj : k = j <;> cases hs[j]? <;> simp [hj, List.map_set]
theorem each_set (hs : List (List UInt8)) (k r : Nat) (b : UInt8) (h16 : ∀ x ∈ hs, x.length = 16) : ∀ x ∈ hs.modify k (·.set r b), x.length = 16 := by
  intro x hx
  obtain ⟨j, hj, rfl⟩ := List.mem_iff_getElem.1 hx
  rw [List.length_modify] at hj
  rw [List.getElem_modify]
  split
  · rw [List.length_set]; exact h16 _ (List.getElem_mem hj)
  · exact h16 _ (List.getElem_mem hj)
theorem u8_xor (a b : UInt8) : bits .xor .u8 (a.toNat : Int) (b.toNat : Int) = ((a ^^^ b).toNat : Int) := by
  rw [u8_xor_nat _ _ a.toNat_lt b.toNat_lt, UInt8.toNat_xor]
theorem bvx (a b : UInt8) : (.int .u8 (bits .xor .u8 (a.toNat : Int) (b.toNat : Int)) : Value) = bv (a ^^^ b) := by rw [u8_xor]; rfl
theorem tmk (k m r : Nat) (hr : r = k % m) (hm : 0 < m) : (k : Int).tmod (m : Int) = (r : Int) ∧ (k : Int) % (m : Int) = (r : Int) := by
  subst hr
  rw [Int.tmod_eq_emod_of_nonneg (by omega)]
  exact ⟨by simp, by simp⟩
theorem idxf (r n : Nat) (h : r < n) (hn : n ≤ 1000) : (0 : Int) ≤ (r : Int) ∧ (r : Int) < (n : Int) ∧ (r : Int).toNat = r ∧ IntKind.i64.wrap (r : Int) = r := ⟨by omega, by omega, by omega, IntWalk.i64_in _ (by omega)⟩
theorem map_at {l : List UInt8} {i : Nat} {y : UInt8} (h : l[i]? = some y) : (l.map bv)[i]? = some (.int .u8 (y.toNat : Int)) := by rw [List.getElem?_map, h]; rfl
theorem pk_at {h : Int} {l : List UInt8} {i : Nat} {y : UInt8} (hy : l[i]? = some y) : (pkCells h l)[1 + i]? = some (.int .u8 (y.toNat : Int)) := by
  rw [Nat.add_comm]
  show (l.map bv)[i]? = _
  exact map_at hy
theorem pk_set (h : Int) (l : List UInt8) (i : Nat) (y : UInt8) : (pkCells h l).set (1 + i) (bv y) = pkCells h (l.set i y) := by
  rw [Nat.add_comm]
  show Value.int .i64 h :: (l.map bv).set i (bv y) = Value.int .i64 h :: (l.set i y).map bv
  rw [List.map_set]
def chCells (p i : Int) (z : UInt8) : List Value := [.int .i64 p, .int .i64 i, bv z]
theorem All.ownSet {w : World} {rs : List Res} {base n c size g : Nat} {e : TypeId} {xs : List Value} (h : All w rs) (i : Nat) (hi : rs[i]? = some (.own base e size (some ⟨g, 0, none⟩) n c xs)) (j : Nat) (u : Value) (ha : Apart (some g) (rs.eraseIdx i)) :
    All (w.setCell ⟨g, j, none⟩ u) (rs.set i (.own base e size (some ⟨g, 0, none⟩) n c (xs.set j u))) := by
  have ho : Own w base e size (some ⟨g, 0, none⟩) n c xs := h.at_ i hi
  exact All.upd (World.ownsRow.stored ho j u).2 i _ h (World.ownsRow.stored ho j u).1 ha
theorem own_at0 {w : World} {base n c size : Nat} {e : TypeId} {A : Option Addr} {xs : List Value} (h : Own w base e size A n c xs) (hn : 0 < n) : ∃ g, A = some ⟨g, 0, none⟩ ∧ base ≤ g ∧ g < w.heap.size := by
  obtain ⟨g, cap, hv, hb, hlt⟩ := World.ownsRow.form h hn
  injection hv with hA
  exact ⟨g, hA, hb, hlt⟩
theorem own_cell {w : World} {base n c size g : Nat} {e : TypeId} {xs : List Value} (h : Own w base e size (some ⟨g, 0, none⟩) n c xs) {j : Nat} {u : Value} (hj : xs[j]? = some u) : w.cell? ⟨g, j, none⟩ = some u := by
  have := World.ownsRow.cells h rfl j u hj
  rwa [add_lit, Nat.zero_add] at this
theorem hvs_cell (hs : List (List UInt8)) (h16 : ∀ x ∈ hs, x.length = 16) {k r : Nat} (hk : k < hs.length) (hr : r < 16) : ∃ b : UInt8, (hvs hs).flatten[k * 16 + r]? = some (bv b) := by
  have hl : (hvs hs).flatten.length = hs.length * 16 := by rw [flat_len (hvs_each h16), hvs_len]
  rw [hvs_flat] at hl ⊢
  rw [List.length_map] at hl
  have : k * 16 + r < hs.flatten.length := by omega
  exact ⟨hs.flatten[k * 16 + r], by rw [List.getElem?_map, List.getElem?_eq_getElem this]; rfl⟩
theorem tmodn (x m : Int) (hm : 0 < m) : -m < x.tmod m ∧ x.tmod m < m := ⟨Int.lt_tmod_of_pos x hm, Int.tmod_lt_of_pos x hm⟩
theorem lown (x m : Int) (hm : 0 < m) : (x.tmod m + m) % m = x % m := by
  have d := Int.tmod_def x m
  rw [Int.add_emod_right, d, Int.sub_emod, Int.mul_emod_right, Int.sub_zero, Int.emod_emod_of_dvd _ (Int.dvd_refl m)]
end Go.Adm
namespace Go.Proofs.Ytlnbeglelhdjfaa
open Go Go.RowKit Go.Adm

set_option maxRecDepth 100000 in
set_option maxHeartbeats 6400000 in
theorem walkSpoils (w : World) (seed d : List UInt8) (p i : Int) (z : UInt8) (hs : seed.length = 16) (hd : d.length = 32) :
    Calls Try.prog 6 #[.agg (seed.map bv).toArray, .agg (d.map bv).toArray, .agg (chCells p i z).toArray] w fun e w' => e = .returned (.bool true) ∧ Below w.heap.size w w' := by
  have hR : All w [.kept w w.heap.size] := ⟨⟨Below.refl _ _, Nat.le_refl _⟩, trivial⟩
  have hsl := Lib.hid hs
  have hdl := Lib.hid hd
  have tm4 := tmodn i 4 (by decide)
  have tm68 := tmodn i 68 (by decide)
  have tm5 := tmodn p 5 (by decide)
  obtain ⟨kn, hkn⟩ : ∃ kn : Nat, i.tmod 4 % 4 = (kn : Int) := ⟨(i.tmod 4 % 4).toNat, by omega⟩
  obtain ⟨k, hk⟩ : ∃ k : Nat, i.tmod 68 % 68 = (k : Int) := ⟨(i.tmod 68 % 68).toNat, by omega⟩
  obtain ⟨pp, hpp⟩ : ∃ pp : Nat, p.tmod 5 % 5 = (pp : Int) := ⟨(p.tmod 5 % 5).toNat, by omega⟩
  have hkn4 : kn < 4 := by omega
  have hk68 : k < 68 := by omega
  have hpp5 : pp < 5 := by omega
  have HKN := Lib.hid hkn
  have HK := Lib.hid hk
  have HPP := Lib.hid hpp
  have e1 : IntKind.i64.wrap (i.tmod 4) = i.tmod 4 := IntWalk.i64_in _ (by omega)
  have e2 : IntKind.i64.wrap (i.tmod 4 + 4) = i.tmod 4 + 4 := IntWalk.i64_in _ (by omega)
  have e3 : IntKind.i64.wrap ((i.tmod 4 + 4).tmod 4) = (i.tmod 4 + 4).tmod 4 := IntWalk.i64_in _ (by have := tmodn (i.tmod 4 + 4) 4 (by decide); omega)
  have e5 : IntKind.i64.wrap (kn : Int) = kn := IntWalk.i64_in _ (by omega)
  have e4 : i.tmod 4 % 4 = (kn : Int) := hkn
  clear hs hd hkn hk hpp
  have HFS : Hid (Instr.fill (#[(0, 16), (16, 1), (17, 1)][·]?) siz.toArray [(0, .agg (seed.map bv).toArray), (1, .int .i64 2), (2, .int .i64 ((i.tmod 4 + 4) % 4))] = some (siCells seed 2 kn).toArray) := Lib.hid (by
    rw [show (i.tmod 4 + 4) % 4 = (kn : Int) from by omega]
    exact fill_si seed 2 kn hsl.out)
  go_enter Try.func6, Try.ntmps6
  go_upto_region 1 with (fail)
  refine wp_gen (((hR.new (l := seed.map bv) _ 23 rfl rfl).new (l := d.map bv) _ 27 (g := w.heap.size + 1) (by simp) rfl).new (l := chCells p i z) _ 48 (g := w.heap.size + 1 + 1) (by simp) rfl) ?_
  intro W0 hI
  have c1 : W0.cell? ⟨w.heap.size + 1 + 1, 1, none⟩ = some (.int .i64 i) := Cells.cell (hI.at_ 0 rfl) (i := 1) (by simp [chCells])
  obtain ⟨g7, hg7⟩ : ∃ g7, g7 = W0.heap.size := ⟨_, rfl⟩
  have hg72 : w.heap.size + 1 + 1 < g7 := by rw [hg7]; exact Cells.lt hI.1
  go_wp2_with (first | (refine wl_load_at rfl 23 (.tmp 3) rfl w.heap.size _ _ (hI.at_ 2 rfl) rfl _ Try.underlying23 rfl (by rw [List.length_map, hsl.out]; kernel_rfl) ?_) | (refine wl_build rfl 25 [(0, .tmp 14), (1, .const (.int .i64 2)), (2, .tmp 19)] rfl _ _ #[(0, 16), (16, 1), (17, 1)] (siCells seed 2 kn).toArray zero_si Try.underlying25 (fun w => by kernel_rfl) ?_ ?_; exact HFS.out) | (refine wl_store_at (hI.new _ _ hg7 rfl) 0 rfl 25 (.tmp 7) _ rfl g7 _ _ (siCells seed 2 kn) rfl (by rw [hg7]; rfl) rfl (by rw [si_len _ _ _ hsl.out]; rfl) (by rw [si_len _ _ _ hsl.out]; kernel_rfl) (si_one _ _ _) (by simp [Apart, Res.apart] <;> omega) ?_; intro V1 hV1 hs1) | (refine wl_load_at rfl 23 (.tmp 3) rfl w.heap.size _ _ (hV1.at_ 3 rfl) rfl _ Try.underlying23 rfl (by rw [List.length_map, hsl.out]; kernel_rfl) ?_))
  simp only [List.set_cons_zero] at hV1
  refine (refNew_any V1 seed 2 hsl.out (by omega)).mono ?_
  rintro e V2 ⟨rfl, hb2⟩
  have hV2 := hV1.call hb2
  try simp only [← hg7]
  clear hI hs1 hb2 c1 hg7
  have hr16 := Lib.hid (rootS_len seed 2)
  generalize rootS seed 2 = root at *
  obtain ⟨g8, hg8⟩ : ∃ g8, g8 = V2.heap.size := ⟨_, rfl⟩
  have hg78 : g7 < g8 := by rw [hg8]; exact Cells.lt hV2.1
  clear hV1
  go_wp2_with (first | (refine wl_store_at (hV2.new _ _ hg8 rfl) 0 rfl 40 (.tmp 8) _ rfl g8 _ _ (pkCells 2 root) rfl (by rw [hg8]; rfl) rfl (by rw [pk_len _ _ hr16.out]; rfl) (by rw [pk_len _ _ hr16.out]; kernel_rfl) (pk_one _ _) (by simp [Apart, Res.apart] <;> omega) ?_; intro V3 hV3 hs3) | (refine wl_load_at rfl 25 (.tmp 7) rfl g7 _ _ (hV3.at_ 1 rfl) rfl _ Try.underlying25 rfl (by rw [si_len _ _ _ hsl.out]; kernel_rfl) ?_) | (refine wl_load_at rfl 27 (.tmp 4) rfl (w.heap.size + 1) _ _ (hV3.at_ 3 rfl) rfl _ Try.underlying27 rfl (by rw [List.length_map, hdl.out]; kernel_rfl) ?_))
  simp only [List.set_cons_zero] at hV3
  refine (refSign_own V3 seed d 2 kn hsl.out hdl.out).mono ?_
  have hmk : signR seed d 2 kn = _ := signR_make seed d 2 kn (by omega) (by omega)
  rw [hmk]
  rintro e V4 ⟨Ac, cc, Ap, cp, rfl, hO1, hO2, hO3, hb4⟩
  dsimp only at *
  have hV4 := hV3.call hb4
  have hs4 := hb4.size
  have hsg := Cells.lt hV3.1
  have HC16 := Lib.hid (signS_each seed kn d)
  have HP16 := Lib.hid (pathS_each seed 2 kn (by omega))
  have HCL := Lib.hid (signS_len seed kn d)
  have HPL := Lib.hid (pathS_len seed 2 kn)
  rw [HCL.out] at hO1 hO3
  rw [HPL.out] at hO2 hO3
  rw [HCL.out, HPL.out]
  generalize signS seed kn d = ch at *
  generalize pathS seed 2 kn = pt at *
  obtain ⟨b0, hb0⟩ : ∃ b0, b0 = V3.heap.size := ⟨_, rfl⟩
  rw [← hb0] at hO1 hO2 hs4 hsg
  obtain ⟨gA, rfl, hA1, hA2⟩ := own_at0 hO1 (by decide)
  obtain ⟨gB, rfl, hB1, hB2⟩ := own_at0 hO2 (by decide)
  have hAB : gA ≠ gB := fun e => hO3 gA rfl (by rw [e]; rfl)
  obtain ⟨g10, hg10⟩ : ∃ g10, g10 = V4.heap.size := ⟨_, rfl⟩
  obtain ⟨g11, hg11⟩ : ∃ g11, g11 = g10 + 1 := ⟨_, rfl⟩
  rw [← hg10] at hA2 hB2 hs4
  have hV5 : All V4 [.own b0 23 16 (some ⟨gA, 0, none⟩) 68 cc (hvs ch).flatten, .own b0 23 16 (some ⟨gB, 0, none⟩) 2 cp (hvs pt).flatten, .cells g8 40 (pkCells 2 root), .cells g7 25 (siCells seed 2 kn), .cells (w.heap.size + 1 + 1) 48 (chCells p i z), .cells (w.heap.size + 1) 27 (d.map bv), .cells w.heap.size 23 (seed.map bv), .kept w w.heap.size] := ⟨hO1, hO2, hV4⟩
  try simp only [← hg8]
  clear hV4 hV3 hV2 hO1 hO2 hO3 hs3 hmk hb4
  go_upto_region 4 with (first | (refine wl_store_at ((hV5.new _ _ hg10 rfl).new (l := sgz) _ 30 (g := g11) (by simp [hg11, hg10]) rfl) 1 rfl 25 (.tmp 10) _ rfl g10 _ _ (siCells seed 2 ((kn : Int) + 1)) rfl (by rw [hg10]; rfl) rfl (by rw [si_len _ _ _ hsl.out]; rfl) (by rw [si_len _ _ _ hsl.out]; kernel_rfl) (si_one _ _ _) (by simp [Apart, Res.apart, Value.ownBlock] <;> omega) ?_; intro V6 hV6 hs6) | (refine wl_store_at hV6 0 rfl 30 (.tmp 11) _ rfl g11 _ _ (sgCells kn (some ⟨gA, 0, none⟩) 68 cc (some ⟨gB, 0, none⟩) 2 cp) rfl (by rw [hg11, hg10]; rfl) rfl rfl (by kernel_rfl) (sg_one _ _ _ _ _ _ _) (by simp [Apart, Res.apart, Value.ownBlock] <;> omega) ?_; intro V7 hV7 hs7; simp only [List.set_cons_zero, List.set_cons_succ] at hV7))
  try simp only [← hg8]
  simp only [← hg10]
  simp only [← hg11]
  have hI : All V7 [.cells g11 30 (sgCells kn (some ⟨gA, 0, none⟩) 68 cc (some ⟨gB, 0, none⟩) 2 cp), .own b0 23 16 (some ⟨gA, 0, none⟩) 68 cc (hvs ch).flatten, .own b0 23 16 (some ⟨gB, 0, none⟩) 2 cp (hvs pt).flatten, .cells g8 40 (pkCells 2 root), .cells (w.heap.size + 1) 27 (d.map bv), .cells (w.heap.size + 1 + 1) 48 (chCells p i z), .kept w w.heap.size] := ⟨hV7.1, hV7.2.2.1, hV7.2.2.2.1, hV7.2.2.2.2.1, hV7.2.2.2.2.2.2.2.1, hV7.2.2.2.2.2.2.1, hV7.2.2.2.2.2.2.2.2.2⟩
  have hlow : w.heap.size + 1 + 1 < g8 ∧ g8 < b0 ∧ gA < g11 ∧ gB < g11 ∧ b0 ≤ gA ∧ b0 ≤ gB := ⟨by omega, by omega, by omega, by omega, by omega, by omega⟩
  obtain ⟨hl1, hl2, hl3, hl4, hl5, hl6⟩ := hlow
  clear hV7 hV6 hV5 hs6 hs7 hg8 hg10 hg11 hb0
  have c1 : V7.cell? ⟨w.heap.size + 1 + 1, 1, none⟩ = some (.int .i64 i) := Cells.cell (hI.at_ 5 rfl) (i := 1) (by simp [chCells])
  have c0 : V7.cell? ⟨w.heap.size + 1 + 1, 0, none⟩ = some (.int .i64 p) := Cells.cell (hI.at_ 5 rfl) (i := 0) (by simp [chCells])
  have f1 : IntKind.i64.wrap (i.tmod 68) = i.tmod 68 := IntWalk.i64_in _ (by omega)
  have f2 : IntKind.i64.wrap (i.tmod 68 + 68) = i.tmod 68 + 68 := IntWalk.i64_in _ (by omega)
  have f3 : IntKind.i64.wrap ((i.tmod 68 + 68).tmod 68) = (i.tmod 68 + 68).tmod 68 := IntWalk.i64_in _ (by have := tmodn (i.tmod 68 + 68) 68 (by decide); omega)
  have f4 : i.tmod 68 % 68 = (k : Int) := HK.out
  have f5 : (i.tmod 68 + 68) % 68 = (k : Int) := by omega
  have q1 : IntKind.i64.wrap (p.tmod 5) = p.tmod 5 := IntWalk.i64_in _ (by omega)
  have q2 : IntKind.i64.wrap (p.tmod 5 + 5) = p.tmod 5 + 5 := IntWalk.i64_in _ (by omega)
  have q3 : IntKind.i64.wrap ((p.tmod 5 + 5).tmod 5) = (p.tmod 5 + 5).tmod 5 := IntWalk.i64_in _ (by have := tmodn (p.tmod 5 + 5) 5 (by decide); omega)
  have q4 : p.tmod 5 % 5 = (pp : Int) := HPP.out
  obtain ⟨r, hr⟩ : ∃ r : Nat, r = k % 16 := ⟨_, rfl⟩
  obtain ⟨m, hm⟩ : ∃ m : Nat, m = k % 2 := ⟨_, rfl⟩
  obtain ⟨s, hs⟩ : ∃ s : Nat, s = k % 32 := ⟨_, rfl⟩
  have r16 : (k : Int).tmod 16 = (r : Int) := (tmk k 16 r hr (by decide)).1
  have r16' : (k : Int) % 16 = (r : Int) := (tmk k 16 r hr (by decide)).2
  have m2 : (k : Int).tmod 2 = (m : Int) := (tmk k 2 m hm (by decide)).1
  have m2' : (k : Int) % 2 = (m : Int) := (tmk k 2 m hm (by decide)).2
  have s32 : (k : Int).tmod 32 = (s : Int) := (tmk k 32 s hs (by decide)).1
  have s32' : (k : Int) % 32 = (s : Int) := (tmk k 32 s hs (by decide)).2
  have hrr16 : r < 16 := by rw [hr]; exact Nat.mod_lt _ (by decide)
  have hm2 : m < 2 := by rw [hm]; exact Nat.mod_lt _ (by decide)
  have hs32 : s < 32 := by rw [hs]; exact Nat.mod_lt _ (by decide)
  have b11 : (0 : Int) ≤ (k : Int) := (idxf k 68 hk68 (by decide)).1
  have b12 : (k : Int) < 68 := (idxf k 68 hk68 (by decide)).2.1
  have b13 : (k : Int).toNat = k := (idxf k 68 hk68 (by decide)).2.2.1
  have wk : IntKind.i64.wrap (k : Int) = k := (idxf k 68 hk68 (by decide)).2.2.2
  have b21 : (0 : Int) ≤ (r : Int) := (idxf r 16 hrr16 (by decide)).1
  have b22 : (r : Int) < 16 := (idxf r 16 hrr16 (by decide)).2.1
  have b23 : (r : Int).toNat = r := (idxf r 16 hrr16 (by decide)).2.2.1
  have wr : IntKind.i64.wrap (r : Int) = r := (idxf r 16 hrr16 (by decide)).2.2.2
  have b31 : (0 : Int) ≤ (m : Int) := (idxf m 2 hm2 (by decide)).1
  have b32 : (m : Int) < 2 := (idxf m 2 hm2 (by decide)).2.1
  have b33 : (m : Int).toNat = m := (idxf m 2 hm2 (by decide)).2.2.1
  have wm : IntKind.i64.wrap (m : Int) = m := (idxf m 2 hm2 (by decide)).2.2.2
  have b41 : (0 : Int) ≤ (s : Int) := (idxf s 32 hs32 (by decide)).1
  have b42 : (s : Int) < 32 := (idxf s 32 hs32 (by decide)).2.1
  have b43 : (s : Int).toNat = s := (idxf s 32 hs32 (by decide)).2.2.1
  have ws : IntKind.i64.wrap (s : Int) = s := (idxf s 32 hs32 (by decide)).2.2.2
  clear hr hm hs
  have hpc : pp = 0 ∨ pp = 1 ∨ pp = 2 ∨ pp = 3 ∨ pp = 4 := by omega
  rcases hpc with hpp' | hpp' | hpp' | hpp' | hpp'
  · have q4' : p.tmod 5 % 5 = 0 := by rw [q4, hpp']; rfl
    have q5' : (p.tmod 5 + 5) % 5 = 0 := by omega
    clear q4
    obtain ⟨y, hy⟩ := hvs_cell ch HC16.out (k := k) (r := r) (by rw [HCL.out]; omega) (by omega)
    have HY := Lib.hid hy
    clear hy
    obtain ⟨x0, hx0⟩ : ∃ x0, x0 = y ^^^ z := ⟨_, rfl⟩
    have HX0 := Lib.hid hx0
    clear hx0
    go_wp2_with fail
    refine wp_region_hops 13 [55, 56, 57, 58, 59, 60, 61, 62, 63, 64, 65, 66, 67] _
      [.eq (.pointer (some ⟨g11, 1, none⟩)), .eq (.slice (some ⟨gA, 0, none⟩) 68 cc), .eq (.int .i64 k), .eq (.int .i64 k), .eq (.int .i64 r), .eq (.pointer (some ⟨gA, k * 16, none⟩)), .eq (.pointer (some ⟨gA, k * 16 + r, none⟩)), .eq (.int .u8 (y.toNat : Int)), .eq (.pointer (some ⟨w.heap.size + 1 + 1, 2, none⟩)), .eq (.int .u8 (z.toNat : Int)), .eq (.int .u8 (x0.toNat : Int)), .eq (.pointer (some ⟨gA, k * 16, none⟩)), .eq (.pointer (some ⟨gA, k * 16 + r, none⟩))]
      (by kernel_rfl) (by kernel_rfl) hI rfl ?hops ?fin
    case hops =>
      refine ⟨?_, ?_, ?_, ?_, ?_, ?_, ?_, ?_, ?_, ?_, ?_, ?_, ?_, trivial⟩
      · intro a W hW hb hd K hK
        have b11 := hb 11 rfl
        go_simp
        exact hK _ _ (World.grownBy.refl _ _) rfl
      · intro a W hW hb hd K hK
        have b55 : a.tmps[55]?.getD undef = _ := hd ⟨0, .data⟩ (by simp) rfl
        have q1 : W.cell? ⟨g11, 1, none⟩ = some (.slice (some ⟨gA, 0, none⟩) 68 cc) := Cells.cell (hW.at_ 0 rfl) (i := 1) (by simp [sgCells])
        go_simp
        exact hK _ _ (World.grownBy.refl _ _) rfl
      · intro a W hW hb hd K hK
        have b13 := hb 13 rfl
        go_simp
        exact hK _ _ (World.grownBy.refl _ _) rfl
      · intro a W hW hb hd K hK
        have b13 := hb 13 rfl
        go_simp
        exact hK _ _ (World.grownBy.refl _ _) rfl
      · intro a W hW hb hd K hK
        have b58 : a.tmps[58]?.getD undef = _ := hd ⟨3, .data⟩ (by simp) rfl
        go_simp
        exact hK _ _ (World.grownBy.refl _ _) rfl
      · intro a W hW hb hd K hK
        have b56 : a.tmps[56]?.getD undef = _ := hd ⟨1, .data⟩ (by simp) rfl
        have b57 : a.tmps[57]?.getD undef = _ := hd ⟨2, .data⟩ (by simp) rfl
        have q1 : (⟨gA, 0, none⟩ : Addr).add (k * 16) = ⟨gA, k * 16, none⟩ := by rw [add_lit, Nat.zero_add]
        go_simp
        exact hK _ _ (World.grownBy.refl _ _) rfl
      · intro a W hW hb hd K hK
        have b60 : a.tmps[60]?.getD undef = _ := hd ⟨5, .data⟩ (by simp) rfl
        have b59 : a.tmps[59]?.getD undef = _ := hd ⟨4, .data⟩ (by simp) rfl
        have q1 : (⟨gA, k * 16, none⟩ : Addr).add r = ⟨gA, k * 16 + r, none⟩ := add_lit _ _ _
        go_simp
        exact hK _ _ (World.grownBy.refl _ _) rfl
      · intro a W hW hb hd K hK
        have b61 : a.tmps[61]?.getD undef = _ := hd ⟨6, .data⟩ (by simp) rfl
        have q1 : W.cell? ⟨gA, k * 16 + r, none⟩ = some (.int .u8 (y.toNat : Int)) := own_cell (hW.at_ 1 rfl) HY.out
        go_simp
        exact hK _ _ (World.grownBy.refl _ _) rfl
      · intro a W hW hb hd K hK
        have b5 := hb 5 rfl
        go_simp
        exact hK _ _ (World.grownBy.refl _ _) rfl
      · intro a W hW hb hd K hK
        have b63 : a.tmps[63]?.getD undef = _ := hd ⟨8, .data⟩ (by simp) rfl
        have q1 : W.cell? ⟨w.heap.size + 1 + 1, 2, none⟩ = some (.int .u8 (z.toNat : Int)) := Cells.cell (hW.at_ 5 rfl) (i := 2) (by simp [chCells])
        go_simp
        exact hK _ _ (World.grownBy.refl _ _) rfl
      · intro a W hW hb hd K hK
        have b62 : a.tmps[62]?.getD undef = _ := hd ⟨7, .data⟩ (by simp) rfl
        have b64 : a.tmps[64]?.getD undef = _ := hd ⟨9, .data⟩ (by simp) rfl
        go_simp
        exact hK _ _ (World.grownBy.refl _ _) ((bvx y z).trans (by rw [← HX0.out]; rfl))
      · intro a W hW hb hd K hK
        have b56 : a.tmps[56]?.getD undef = _ := hd ⟨1, .data⟩ (by simp) rfl
        have b57 : a.tmps[57]?.getD undef = _ := hd ⟨2, .data⟩ (by simp) rfl
        have q1 : (⟨gA, 0, none⟩ : Addr).add (k * 16) = ⟨gA, k * 16, none⟩ := by rw [add_lit, Nat.zero_add]
        go_simp
        exact hK _ _ (World.grownBy.refl _ _) rfl
      · intro a W hW hb hd K hK
        have b66 : a.tmps[66]?.getD undef = _ := hd ⟨11, .data⟩ (by simp) rfl
        have b59 : a.tmps[59]?.getD undef = _ := hd ⟨4, .data⟩ (by simp) rfl
        have q1 : (⟨gA, k * 16, none⟩ : Addr).add r = ⟨gA, k * 16 + r, none⟩ := add_lit _ _ _
        go_simp
        exact hK _ _ (World.grownBy.refl _ _) rfl
    case fin =>
      intro vs V hV hv
      have e12 : vs 12 = _ := hv 12 (by decide)
      have e10 : vs 10 = _ := hv 10 (by decide)
      clear hv hI
      simp only [putAll, List.drop_succ_cons, List.drop_zero, e12, e10, Act.put, List.setIfInBounds_toArray, List.set_cons_succ, List.set_cons_zero]
      clear e12 e10
      have y1 : V.cell? ⟨gA, k * 16 + r, none⟩ = some (.int .u8 (y.toNat : Int)) := own_cell (hV.at_ 1 rfl) HY.out
      have y2 : V.frozen? ⟨gA, k * 16 + r, none⟩ = false := World.ownsRow.frozenAt (hV.at_ 1 rfl) _
      go_wp2_with fail
      clear y1 y2
      refine wp_genP (Pr := fun w' => ∃ (leaf : Int) (ch' pt' : List (List UInt8)) (root' d' : List UInt8), All w' [.cells g11 30 (sgCells leaf (some ⟨gA, 0, none⟩) 68 cc (some ⟨gB, 0, none⟩) 2 cp), .own b0 23 16 (some ⟨gA, 0, none⟩) 68 cc (hvs ch').flatten, .own b0 23 16 (some ⟨gB, 0, none⟩) 2 cp (hvs pt').flatten, .cells g8 40 (pkCells 2 root'), .cells (w.heap.size + 1) 27 (d'.map bv), .cells (w.heap.size + 1 + 1) 48 (chCells p i z), .kept w w.heap.size] ∧ ch'.length = 68 ∧ (∀ x ∈ ch', x.length = 16) ∧ pt'.length = 2 ∧ (∀ x ∈ pt', x.length = 16) ∧ root'.length = 16 ∧ d'.length = 32) ⟨kn, ch.modify k (·.set r x0), pt, root, d, (by have := hV.ownSet 1 rfl (k * 16 + r) (bv x0) (by simp [Apart, Res.apart, hAB, hAB.symm, Value.ownBlock] <;> omega); simp only [List.set_cons_zero, List.set_cons_succ] at this; rw [hvs_set ch k r _ HC16.out hrr16] at this; exact this), (by rw [List.length_modify]; exact HCL.out), (each_set _ _ _ _ HC16.out), HPL.out, HP16.out, hr16.out, hdl.out⟩ ?_
      clear hV
      clear c0 c1
      try clear hI
      rintro W5 ⟨leaf, ch', pt', root', d', hF, hc, hc16, hp, hp16, hr', hd'⟩
      have HC := Lib.hid hc
      have HC16 := Lib.hid hc16
      have HP := Lib.hid hp
      have HP16 := Lib.hid hp16
      have HR := Lib.hid hr'
      have HD := Lib.hid hd'
      obtain ⟨v, hv⟩ : ∃ v, v = verifyB 2 leaf root' d' ch' pt' := ⟨_, rfl⟩
      have HV : Hid (verifyB 2 leaf root' d' ch' pt' = v) := Lib.hid hv.symm
      clear hc hc16 hp hp16 hr' hd' hv
      go_wp2_with fail
      refine wp_region_hops 12 [104, 105, 106, 107, 108, 109, 110, 111, 112, 113, 114, 115] _
        [.eq (.bool true), .eq (.bool true), .eq (.agg (pkCells 2 root').toArray), .eq (.agg (d'.map bv).toArray), .eq (.agg (sgCells leaf (some ⟨gA, 0, none⟩) 68 cc (some ⟨gB, 0, none⟩) 2 cp).toArray), .eq (.bool v), .eq (.agg (pkCells 2 root').toArray), .eq (.agg (d'.map bv).toArray), .eq (.agg (sgCells leaf (some ⟨gA, 0, none⟩) 68 cc (some ⟨gB, 0, none⟩) 2 cp).toArray), .eq (.bool v), .eq (.bool true), .eq (.bool true)]
        (by kernel_rfl) (by kernel_rfl) hF rfl ?hops ?fin
      case hops =>
        refine ⟨?_, ?_, ?_, ?_, ?_, ?_, ?_, ?_, ?_, ?_, ?_, ?_, trivial⟩
        · intro a W hW hb hd K hK
          go_simp
          refine (awake_any W).mono ?_
          rintro e w' ⟨rfl, hb'⟩
          exact hK _ _ (grown_of_below hb') rfl
        · intro a W hW hb hd K hK
          have b104 : a.tmps[104]?.getD undef = _ := hd ⟨0, .data⟩ (by simp) rfl
          go_simp
          exact hK _ _ (World.grownBy.refl _ _) rfl
        · refine Or.inl ⟨fun v w h => h, ?_⟩
          intro a W hW hb hd K hK
          have b8 := hb 8 rfl
          refine wp_load_mid 40 (.tmp 8) rfl g8 0 (by simp [Act.eval, b8]) (pkCells 2 root') _ (Cells.range (hW.at_ 3 rfl)) Try.underlying40 rfl (by rw [pk_len _ _ HR.out]; kernel_rfl) ?_
          exact hK _ _ (World.grownBy.refl _ _) rfl
        · refine Or.inl ⟨fun v w h => h, ?_⟩
          intro a W hW hb hd K hK
          have b4 := hb 4 rfl
          refine wp_load_mid 27 (.tmp 4) rfl (w.heap.size + 1) 0 (by simp [Act.eval, b4]) (d'.map bv) _ (Cells.range (hW.at_ 4 rfl)) Try.underlying27 rfl (by rw [List.length_map, HD.out]; kernel_rfl) ?_
          exact hK _ _ (World.grownBy.refl _ _) rfl
        · refine Or.inl ⟨fun v w h => h, ?_⟩
          intro a W hW hb hd K hK
          have b11 := hb 11 rfl
          refine wp_load_mid 30 (.tmp 11) rfl g11 0 (by simp [Act.eval, b11]) (sgCells leaf (some ⟨gA, 0, none⟩) 68 cc (some ⟨gB, 0, none⟩) 2 cp) _ (Cells.range (hW.at_ 0 rfl)) Try.underlying30 rfl (by kernel_rfl) ?_
          exact hK _ _ (World.grownBy.refl _ _) rfl
        · refine Or.inl ⟨fun v w h => h, ?_⟩
          intro a W hW hb hd K hK
          have b106 : a.tmps[106]?.getD undef = _ := hd ⟨2, .data⟩ (by simp) rfl
          have b107 : a.tmps[107]?.getD undef = _ := hd ⟨3, .data⟩ (by simp) rfl
          have b108 : a.tmps[108]?.getD undef = _ := hd ⟨4, .data⟩ (by simp) rfl
          go_simp
          refine (Verify_at W W.heap.size 2 leaf root' d' ch' pt' (some ⟨gA, 0, none⟩) 68 cc (some ⟨gB, 0, none⟩) 2 cp HC.out HP.out HR.out HD.out (Els.of (hW.at_ 1 rfl) (hvs_each HC16.out) (by rw [hvs_len]; exact HC.out)) HC16.out (Els.of (hW.at_ 2 rfl) (hvs_each HP16.out) (by rw [hvs_len]; exact HP.out)) HP16.out (Nat.le_refl _)).mono ?_
          rintro e w' ⟨rfl, hb'⟩
          exact hK _ _ (grown_of_below hb') (congrArg Value.bool HV.out)
        · refine Or.inl ⟨fun v w h => h, ?_⟩
          intro a W hW hb hd K hK
          have b8 := hb 8 rfl
          refine wp_load_mid 40 (.tmp 8) rfl g8 0 (by simp [Act.eval, b8]) (pkCells 2 root') _ (Cells.range (hW.at_ 3 rfl)) Try.underlying40 rfl (by rw [pk_len _ _ HR.out]; kernel_rfl) ?_
          exact hK _ _ (World.grownBy.refl _ _) rfl
        · refine Or.inl ⟨fun v w h => h, ?_⟩
          intro a W hW hb hd K hK
          have b4 := hb 4 rfl
          refine wp_load_mid 27 (.tmp 4) rfl (w.heap.size + 1) 0 (by simp [Act.eval, b4]) (d'.map bv) _ (Cells.range (hW.at_ 4 rfl)) Try.underlying27 rfl (by rw [List.length_map, HD.out]; kernel_rfl) ?_
          exact hK _ _ (World.grownBy.refl _ _) rfl
        · refine Or.inl ⟨fun v w h => h, ?_⟩
          intro a W hW hb hd K hK
          have b11 := hb 11 rfl
          refine wp_load_mid 30 (.tmp 11) rfl g11 0 (by simp [Act.eval, b11]) (sgCells leaf (some ⟨gA, 0, none⟩) 68 cc (some ⟨gB, 0, none⟩) 2 cp) _ (Cells.range (hW.at_ 0 rfl)) Try.underlying30 rfl (by kernel_rfl) ?_
          exact hK _ _ (World.grownBy.refl _ _) rfl
        · refine Or.inl ⟨fun v w h => h, ?_⟩
          intro a W hW hb hd K hK
          have b110 : a.tmps[110]?.getD undef = _ := hd ⟨6, .data⟩ (by simp) rfl
          have b111 : a.tmps[111]?.getD undef = _ := hd ⟨7, .data⟩ (by simp) rfl
          have b112 : a.tmps[112]?.getD undef = _ := hd ⟨8, .data⟩ (by simp) rfl
          go_simp
          refine (refVerify_at W W.heap.size 2 leaf root' d' ch' pt' (some ⟨gA, 0, none⟩) 68 cc (some ⟨gB, 0, none⟩) 2 cp HC.out HP.out HR.out HD.out (Els.of (hW.at_ 1 rfl) (hvs_each HC16.out) (by rw [hvs_len]; exact HC.out)) HC16.out (Els.of (hW.at_ 2 rfl) (hvs_each HP16.out) (by rw [hvs_len]; exact HP.out)) HP16.out (Nat.le_refl _)).mono ?_
          rintro e w' ⟨rfl, hb'⟩
          exact hK _ _ (grown_of_below hb') (congrArg Value.bool HV.out)
        · refine Or.inl ⟨fun v w h => h, ?_⟩
          intro a W hW hb hd K hK
          have b109 : a.tmps[109]?.getD undef = _ := hd ⟨5, .data⟩ (by simp) rfl
          have b113 : a.tmps[113]?.getD undef = _ := hd ⟨9, .data⟩ (by simp) rfl
          go_simp
          exact hK _ _ (World.grownBy.refl _ _) rfl
        · intro a W hW hb hd K hK
          have b105 : a.tmps[105]?.getD undef = _ := hd ⟨1, .data⟩ (by simp) rfl
          have b114 : a.tmps[114]?.getD undef = _ := hd ⟨10, .data⟩ (by simp) rfl
          go_simp
          exact hK _ _ (World.grownBy.refl _ _) rfl
      case fin =>
        intro vs W hW hv
        have e11 : vs 11 = _ := hv 11 (by decide)
        clear hv
        simp only [putAll, List.drop_succ_cons, List.drop_zero, e11, Act.put, List.setIfInBounds_toArray, List.set_cons_succ, List.set_cons_zero]
        go_wp2_with fail
        go_ret
        exact ⟨rfl, (hW.at_ 6 rfl).1⟩
  · have q4' : p.tmod 5 % 5 = 1 := by rw [q4, hpp']; rfl
    have q5' : (p.tmod 5 + 5) % 5 = 1 := by omega
    clear q4
    obtain ⟨y, hy⟩ := hvs_cell pt HP16.out (k := m) (r := r) (by rw [HPL.out]; omega) (by omega)
    have HY := Lib.hid hy
    clear hy
    obtain ⟨x0, hx0⟩ : ∃ x0, x0 = y ^^^ z := ⟨_, rfl⟩
    have HX0 := Lib.hid hx0
    clear hx0
    go_wp2_with fail
    refine wp_region_hops 14 [70, 71, 72, 73, 74, 75, 76, 77, 78, 79, 80, 81, 82, 83] _
      [.eq (.pointer (some ⟨g11, 2, none⟩)), .eq (.slice (some ⟨gB, 0, none⟩) 2 cp), .eq (.int .i64 k), .eq (.int .i64 m), .eq (.int .i64 k), .eq (.int .i64 r), .eq (.pointer (some ⟨gB, m * 16, none⟩)), .eq (.pointer (some ⟨gB, m * 16 + r, none⟩)), .eq (.int .u8 (y.toNat : Int)), .eq (.pointer (some ⟨w.heap.size + 1 + 1, 2, none⟩)), .eq (.int .u8 (z.toNat : Int)), .eq (.int .u8 (x0.toNat : Int)), .eq (.pointer (some ⟨gB, m * 16, none⟩)), .eq (.pointer (some ⟨gB, m * 16 + r, none⟩))]
      (by kernel_rfl) (by kernel_rfl) hI rfl ?hops ?fin
    case hops =>
      refine ⟨?_, ?_, ?_, ?_, ?_, ?_, ?_, ?_, ?_, ?_, ?_, ?_, ?_, ?_, trivial⟩
      · intro a W hW hb hd K hK
        have b11 := hb 11 rfl
        go_simp
        exact hK _ _ (World.grownBy.refl _ _) rfl
      · intro a W hW hb hd K hK
        have b70 : a.tmps[70]?.getD undef = _ := hd ⟨0, .data⟩ (by simp) rfl
        have q1 : W.cell? ⟨g11, 2, none⟩ = some (.slice (some ⟨gB, 0, none⟩) 2 cp) := Cells.cell (hW.at_ 0 rfl) (i := 2) (by simp [sgCells])
        go_simp
        exact hK _ _ (World.grownBy.refl _ _) rfl
      · intro a W hW hb hd K hK
        have b13 := hb 13 rfl
        go_simp
        exact hK _ _ (World.grownBy.refl _ _) rfl
      · intro a W hW hb hd K hK
        have b72 : a.tmps[72]?.getD undef = _ := hd ⟨2, .data⟩ (by simp) rfl
        go_simp
        exact hK _ _ (World.grownBy.refl _ _) rfl
      · intro a W hW hb hd K hK
        have b13 := hb 13 rfl
        go_simp
        exact hK _ _ (World.grownBy.refl _ _) rfl
      · intro a W hW hb hd K hK
        have b74 : a.tmps[74]?.getD undef = _ := hd ⟨4, .data⟩ (by simp) rfl
        go_simp
        exact hK _ _ (World.grownBy.refl _ _) rfl
      · intro a W hW hb hd K hK
        have b71 : a.tmps[71]?.getD undef = _ := hd ⟨1, .data⟩ (by simp) rfl
        have b73 : a.tmps[73]?.getD undef = _ := hd ⟨3, .data⟩ (by simp) rfl
        have q1 : (⟨gB, 0, none⟩ : Addr).add (m * 16) = ⟨gB, m * 16, none⟩ := by rw [add_lit, Nat.zero_add]
        go_simp
        exact hK _ _ (World.grownBy.refl _ _) rfl
      · intro a W hW hb hd K hK
        have b76 : a.tmps[76]?.getD undef = _ := hd ⟨6, .data⟩ (by simp) rfl
        have b75 : a.tmps[75]?.getD undef = _ := hd ⟨5, .data⟩ (by simp) rfl
        have q1 : (⟨gB, m * 16, none⟩ : Addr).add r = ⟨gB, m * 16 + r, none⟩ := add_lit _ _ _
        go_simp
        exact hK _ _ (World.grownBy.refl _ _) rfl
      · intro a W hW hb hd K hK
        have b77 : a.tmps[77]?.getD undef = _ := hd ⟨7, .data⟩ (by simp) rfl
        have q1 : W.cell? ⟨gB, m * 16 + r, none⟩ = some (.int .u8 (y.toNat : Int)) := own_cell (hW.at_ 2 rfl) HY.out
        go_simp
        exact hK _ _ (World.grownBy.refl _ _) rfl
      · intro a W hW hb hd K hK
        have b5 := hb 5 rfl
        go_simp
        exact hK _ _ (World.grownBy.refl _ _) rfl
      · intro a W hW hb hd K hK
        have b79 : a.tmps[79]?.getD undef = _ := hd ⟨9, .data⟩ (by simp) rfl
        have q1 : W.cell? ⟨w.heap.size + 1 + 1, 2, none⟩ = some (.int .u8 (z.toNat : Int)) := Cells.cell (hW.at_ 5 rfl) (i := 2) (by simp [chCells])
        go_simp
        exact hK _ _ (World.grownBy.refl _ _) rfl
      · intro a W hW hb hd K hK
        have b78 : a.tmps[78]?.getD undef = _ := hd ⟨8, .data⟩ (by simp) rfl
        have b80 : a.tmps[80]?.getD undef = _ := hd ⟨10, .data⟩ (by simp) rfl
        go_simp
        exact hK _ _ (World.grownBy.refl _ _) ((bvx y z).trans (by rw [← HX0.out]; rfl))
      · intro a W hW hb hd K hK
        have b71 : a.tmps[71]?.getD undef = _ := hd ⟨1, .data⟩ (by simp) rfl
        have b73 : a.tmps[73]?.getD undef = _ := hd ⟨3, .data⟩ (by simp) rfl
        have q1 : (⟨gB, 0, none⟩ : Addr).add (m * 16) = ⟨gB, m * 16, none⟩ := by rw [add_lit, Nat.zero_add]
        go_simp
        exact hK _ _ (World.grownBy.refl _ _) rfl
      · intro a W hW hb hd K hK
        have b82 : a.tmps[82]?.getD undef = _ := hd ⟨12, .data⟩ (by simp) rfl
        have b75 : a.tmps[75]?.getD undef = _ := hd ⟨5, .data⟩ (by simp) rfl
        have q1 : (⟨gB, m * 16, none⟩ : Addr).add r = ⟨gB, m * 16 + r, none⟩ := add_lit _ _ _
        go_simp
        exact hK _ _ (World.grownBy.refl _ _) rfl
    case fin =>
      intro vs V hV hv
      have e13 : vs 13 = _ := hv 13 (by decide)
      have e11 : vs 11 = _ := hv 11 (by decide)
      clear hv hI
      simp only [putAll, List.drop_succ_cons, List.drop_zero, e13, e11, Act.put, List.setIfInBounds_toArray, List.set_cons_succ, List.set_cons_zero]
      clear e13 e11
      have y1 : V.cell? ⟨gB, m * 16 + r, none⟩ = some (.int .u8 (y.toNat : Int)) := own_cell (hV.at_ 2 rfl) HY.out
      have y2 : V.frozen? ⟨gB, m * 16 + r, none⟩ = false := World.ownsRow.frozenAt (hV.at_ 2 rfl) _
      go_wp2_with fail
      clear y1 y2
      refine wp_genP (Pr := fun w' => ∃ (leaf : Int) (ch' pt' : List (List UInt8)) (root' d' : List UInt8), All w' [.cells g11 30 (sgCells leaf (some ⟨gA, 0, none⟩) 68 cc (some ⟨gB, 0, none⟩) 2 cp), .own b0 23 16 (some ⟨gA, 0, none⟩) 68 cc (hvs ch').flatten, .own b0 23 16 (some ⟨gB, 0, none⟩) 2 cp (hvs pt').flatten, .cells g8 40 (pkCells 2 root'), .cells (w.heap.size + 1) 27 (d'.map bv), .cells (w.heap.size + 1 + 1) 48 (chCells p i z), .kept w w.heap.size] ∧ ch'.length = 68 ∧ (∀ x ∈ ch', x.length = 16) ∧ pt'.length = 2 ∧ (∀ x ∈ pt', x.length = 16) ∧ root'.length = 16 ∧ d'.length = 32) ⟨kn, ch, pt.modify m (·.set r x0), root, d, (by have := hV.ownSet 2 rfl (m * 16 + r) (bv x0) (by simp [Apart, Res.apart, hAB, hAB.symm, Value.ownBlock] <;> omega); simp only [List.set_cons_zero, List.set_cons_succ] at this; rw [hvs_set pt m r _ HP16.out hrr16] at this; exact this), HCL.out, HC16.out, (by rw [List.length_modify]; exact HPL.out), (each_set _ _ _ _ HP16.out), hr16.out, hdl.out⟩ ?_
      clear hV
      clear c0 c1
      try clear hI
      rintro W5 ⟨leaf, ch', pt', root', d', hF, hc, hc16, hp, hp16, hr', hd'⟩
      have HC := Lib.hid hc
      have HC16 := Lib.hid hc16
      have HP := Lib.hid hp
      have HP16 := Lib.hid hp16
      have HR := Lib.hid hr'
      have HD := Lib.hid hd'
      obtain ⟨v, hv⟩ : ∃ v, v = verifyB 2 leaf root' d' ch' pt' := ⟨_, rfl⟩
      have HV : Hid (verifyB 2 leaf root' d' ch' pt' = v) := Lib.hid hv.symm
      clear hc hc16 hp hp16 hr' hd' hv
      go_wp2_with fail
      refine wp_region_hops 12 [104, 105, 106, 107, 108, 109, 110, 111, 112, 113, 114, 115] _
        [.eq (.bool true), .eq (.bool true), .eq (.agg (pkCells 2 root').toArray), .eq (.agg (d'.map bv).toArray), .eq (.agg (sgCells leaf (some ⟨gA, 0, none⟩) 68 cc (some ⟨gB, 0, none⟩) 2 cp).toArray), .eq (.bool v), .eq (.agg (pkCells 2 root').toArray), .eq (.agg (d'.map bv).toArray), .eq (.agg (sgCells leaf (some ⟨gA, 0, none⟩) 68 cc (some ⟨gB, 0, none⟩) 2 cp).toArray), .eq (.bool v), .eq (.bool true), .eq (.bool true)]
        (by kernel_rfl) (by kernel_rfl) hF rfl ?hops ?fin
      case hops =>
        refine ⟨?_, ?_, ?_, ?_, ?_, ?_, ?_, ?_, ?_, ?_, ?_, ?_, trivial⟩
        · intro a W hW hb hd K hK
          go_simp
          refine (awake_any W).mono ?_
          rintro e w' ⟨rfl, hb'⟩
          exact hK _ _ (grown_of_below hb') rfl
        · intro a W hW hb hd K hK
          have b104 : a.tmps[104]?.getD undef = _ := hd ⟨0, .data⟩ (by simp) rfl
          go_simp
          exact hK _ _ (World.grownBy.refl _ _) rfl
        · refine Or.inl ⟨fun v w h => h, ?_⟩
          intro a W hW hb hd K hK
          have b8 := hb 8 rfl
          refine wp_load_mid 40 (.tmp 8) rfl g8 0 (by simp [Act.eval, b8]) (pkCells 2 root') _ (Cells.range (hW.at_ 3 rfl)) Try.underlying40 rfl (by rw [pk_len _ _ HR.out]; kernel_rfl) ?_
          exact hK _ _ (World.grownBy.refl _ _) rfl
        · refine Or.inl ⟨fun v w h => h, ?_⟩
          intro a W hW hb hd K hK
          have b4 := hb 4 rfl
          refine wp_load_mid 27 (.tmp 4) rfl (w.heap.size + 1) 0 (by simp [Act.eval, b4]) (d'.map bv) _ (Cells.range (hW.at_ 4 rfl)) Try.underlying27 rfl (by rw [List.length_map, HD.out]; kernel_rfl) ?_
          exact hK _ _ (World.grownBy.refl _ _) rfl
        · refine Or.inl ⟨fun v w h => h, ?_⟩
          intro a W hW hb hd K hK
          have b11 := hb 11 rfl
          refine wp_load_mid 30 (.tmp 11) rfl g11 0 (by simp [Act.eval, b11]) (sgCells leaf (some ⟨gA, 0, none⟩) 68 cc (some ⟨gB, 0, none⟩) 2 cp) _ (Cells.range (hW.at_ 0 rfl)) Try.underlying30 rfl (by kernel_rfl) ?_
          exact hK _ _ (World.grownBy.refl _ _) rfl
        · refine Or.inl ⟨fun v w h => h, ?_⟩
          intro a W hW hb hd K hK
          have b106 : a.tmps[106]?.getD undef = _ := hd ⟨2, .data⟩ (by simp) rfl
          have b107 : a.tmps[107]?.getD undef = _ := hd ⟨3, .data⟩ (by simp) rfl
          have b108 : a.tmps[108]?.getD undef = _ := hd ⟨4, .data⟩ (by simp) rfl
          go_simp
          refine (Verify_at W W.heap.size 2 leaf root' d' ch' pt' (some ⟨gA, 0, none⟩) 68 cc (some ⟨gB, 0, none⟩) 2 cp HC.out HP.out HR.out HD.out (Els.of (hW.at_ 1 rfl) (hvs_each HC16.out) (by rw [hvs_len]; exact HC.out)) HC16.out (Els.of (hW.at_ 2 rfl) (hvs_each HP16.out) (by rw [hvs_len]; exact HP.out)) HP16.out (Nat.le_refl _)).mono ?_
          rintro e w' ⟨rfl, hb'⟩
          exact hK _ _ (grown_of_below hb') (congrArg Value.bool HV.out)
        · refine Or.inl ⟨fun v w h => h, ?_⟩
          intro a W hW hb hd K hK
          have b8 := hb 8 rfl
          refine wp_load_mid 40 (.tmp 8) rfl g8 0 (by simp [Act.eval, b8]) (pkCells 2 root') _ (Cells.range (hW.at_ 3 rfl)) Try.underlying40 rfl (by rw [pk_len _ _ HR.out]; kernel_rfl) ?_
          exact hK _ _ (World.grownBy.refl _ _) rfl
        · refine Or.inl ⟨fun v w h => h, ?_⟩
          intro a W hW hb hd K hK
          have b4 := hb 4 rfl
          refine wp_load_mid 27 (.tmp 4) rfl (w.heap.size + 1) 0 (by simp [Act.eval, b4]) (d'.map bv) _ (Cells.range (hW.at_ 4 rfl)) Try.underlying27 rfl (by rw [List.length_map, HD.out]; kernel_rfl) ?_
          exact hK _ _ (World.grownBy.refl _ _) rfl
        · refine Or.inl ⟨fun v w h => h, ?_⟩
          intro a W hW hb hd K hK
          have b11 := hb 11 rfl
          refine wp_load_mid 30 (.tmp 11) rfl g11 0 (by simp [Act.eval, b11]) (sgCells leaf (some ⟨gA, 0, none⟩) 68 cc (some ⟨gB, 0, none⟩) 2 cp) _ (Cells.range (hW.at_ 0 rfl)) Try.underlying30 rfl (by kernel_rfl) ?_
          exact hK _ _ (World.grownBy.refl _ _) rfl
        · refine Or.inl ⟨fun v w h => h, ?_⟩
          intro a W hW hb hd K hK
          have b110 : a.tmps[110]?.getD undef = _ := hd ⟨6, .data⟩ (by simp) rfl
          have b111 : a.tmps[111]?.getD undef = _ := hd ⟨7, .data⟩ (by simp) rfl
          have b112 : a.tmps[112]?.getD undef = _ := hd ⟨8, .data⟩ (by simp) rfl
          go_simp
          refine (refVerify_at W W.heap.size 2 leaf root' d' ch' pt' (some ⟨gA, 0, none⟩) 68 cc (some ⟨gB, 0, none⟩) 2 cp HC.out HP.out HR.out HD.out (Els.of (hW.at_ 1 rfl) (hvs_each HC16.out) (by rw [hvs_len]; exact HC.out)) HC16.out (Els.of (hW.at_ 2 rfl) (hvs_each HP16.out) (by rw [hvs_len]; exact HP.out)) HP16.out (Nat.le_refl _)).mono ?_
          rintro e w' ⟨rfl, hb'⟩
          exact hK _ _ (grown_of_below hb') (congrArg Value.bool HV.out)
        · refine Or.inl ⟨fun v w h => h, ?_⟩
          intro a W hW hb hd K hK
          have b109 : a.tmps[109]?.getD undef = _ := hd ⟨5, .data⟩ (by simp) rfl
          have b113 : a.tmps[113]?.getD undef = _ := hd ⟨9, .data⟩ (by simp) rfl
          go_simp
          exact hK _ _ (World.grownBy.refl _ _) rfl
        · intro a W hW hb hd K hK
          have b105 : a.tmps[105]?.getD undef = _ := hd ⟨1, .data⟩ (by simp) rfl
          have b114 : a.tmps[114]?.getD undef = _ := hd ⟨10, .data⟩ (by simp) rfl
          go_simp
          exact hK _ _ (World.grownBy.refl _ _) rfl
      case fin =>
        intro vs W hW hv
        have e11 : vs 11 = _ := hv 11 (by decide)
        clear hv
        simp only [putAll, List.drop_succ_cons, List.drop_zero, e11, Act.put, List.setIfInBounds_toArray, List.set_cons_succ, List.set_cons_zero]
        go_wp2_with fail
        go_ret
        exact ⟨rfl, (hW.at_ 6 rfl).1⟩
  · have q4' : p.tmod 5 % 5 = 2 := by rw [q4, hpp']; rfl
    have q5' : (p.tmod 5 + 5) % 5 = 2 := by omega
    clear q4
    have c2 : V7.cell? ⟨w.heap.size + 1 + 1, 2, none⟩ = some (.int .u8 (z.toNat : Int)) := Cells.cell (hI.at_ 5 rfl) (i := 2) (by simp [chCells])
    have y1 : V7.cell? ⟨g11, 0, none⟩ = some (.int .i64 kn) := Cells.cell (hI.at_ 0 rfl) (i := 0) (by simp [sgCells])
    have y2 : V7.frozen? ⟨g11, 0, none⟩ = false := Cells.frozen (hI.at_ 0 rfl) _
    go_wp2_with fail
    clear y1 y2 c2
    refine wp_genP (Pr := fun w' => ∃ (leaf : Int) (ch' pt' : List (List UInt8)) (root' d' : List UInt8), All w' [.cells g11 30 (sgCells leaf (some ⟨gA, 0, none⟩) 68 cc (some ⟨gB, 0, none⟩) 2 cp), .own b0 23 16 (some ⟨gA, 0, none⟩) 68 cc (hvs ch').flatten, .own b0 23 16 (some ⟨gB, 0, none⟩) 2 cp (hvs pt').flatten, .cells g8 40 (pkCells 2 root'), .cells (w.heap.size + 1) 27 (d'.map bv), .cells (w.heap.size + 1 + 1) 48 (chCells p i z), .kept w w.heap.size] ∧ ch'.length = 68 ∧ (∀ x ∈ ch', x.length = 16) ∧ pt'.length = 2 ∧ (∀ x ∈ pt', x.length = 16) ∧ root'.length = 16 ∧ d'.length = 32) ⟨_, ch, pt, root, d, hI.store 0 rfl 0 _ (by simp [Apart, Res.apart, hAB, hAB.symm, Value.ownBlock] <;> omega), HCL.out, HC16.out, HPL.out, HP16.out, hr16.out, hdl.out⟩ ?_
    clear c0 c1
    try clear hI
    rintro W5 ⟨leaf, ch', pt', root', d', hF, hc, hc16, hp, hp16, hr', hd'⟩
    have HC := Lib.hid hc
    have HC16 := Lib.hid hc16
    have HP := Lib.hid hp
    have HP16 := Lib.hid hp16
    have HR := Lib.hid hr'
    have HD := Lib.hid hd'
    obtain ⟨v, hv⟩ : ∃ v, v = verifyB 2 leaf root' d' ch' pt' := ⟨_, rfl⟩
    have HV : Hid (verifyB 2 leaf root' d' ch' pt' = v) := Lib.hid hv.symm
    clear hc hc16 hp hp16 hr' hd' hv
    go_wp2_with fail
    refine wp_region_hops 12 [104, 105, 106, 107, 108, 109, 110, 111, 112, 113, 114, 115] _
      [.eq (.bool true), .eq (.bool true), .eq (.agg (pkCells 2 root').toArray), .eq (.agg (d'.map bv).toArray), .eq (.agg (sgCells leaf (some ⟨gA, 0, none⟩) 68 cc (some ⟨gB, 0, none⟩) 2 cp).toArray), .eq (.bool v), .eq (.agg (pkCells 2 root').toArray), .eq (.agg (d'.map bv).toArray), .eq (.agg (sgCells leaf (some ⟨gA, 0, none⟩) 68 cc (some ⟨gB, 0, none⟩) 2 cp).toArray), .eq (.bool v), .eq (.bool true), .eq (.bool true)]
      (by kernel_rfl) (by kernel_rfl) hF rfl ?hops ?fin
    case hops =>
      refine ⟨?_, ?_, ?_, ?_, ?_, ?_, ?_, ?_, ?_, ?_, ?_, ?_, trivial⟩
      · intro a W hW hb hd K hK
        go_simp
        refine (awake_any W).mono ?_
        rintro e w' ⟨rfl, hb'⟩
        exact hK _ _ (grown_of_below hb') rfl
      · intro a W hW hb hd K hK
        have b104 : a.tmps[104]?.getD undef = _ := hd ⟨0, .data⟩ (by simp) rfl
        go_simp
        exact hK _ _ (World.grownBy.refl _ _) rfl
      · refine Or.inl ⟨fun v w h => h, ?_⟩
        intro a W hW hb hd K hK
        have b8 := hb 8 rfl
        refine wp_load_mid 40 (.tmp 8) rfl g8 0 (by simp [Act.eval, b8]) (pkCells 2 root') _ (Cells.range (hW.at_ 3 rfl)) Try.underlying40 rfl (by rw [pk_len _ _ HR.out]; kernel_rfl) ?_
        exact hK _ _ (World.grownBy.refl _ _) rfl
      · refine Or.inl ⟨fun v w h => h, ?_⟩
        intro a W hW hb hd K hK
        have b4 := hb 4 rfl
        refine wp_load_mid 27 (.tmp 4) rfl (w.heap.size + 1) 0 (by simp [Act.eval, b4]) (d'.map bv) _ (Cells.range (hW.at_ 4 rfl)) Try.underlying27 rfl (by rw [List.length_map, HD.out]; kernel_rfl) ?_
        exact hK _ _ (World.grownBy.refl _ _) rfl
      · refine Or.inl ⟨fun v w h => h, ?_⟩
        intro a W hW hb hd K hK
        have b11 := hb 11 rfl
        refine wp_load_mid 30 (.tmp 11) rfl g11 0 (by simp [Act.eval, b11]) (sgCells leaf (some ⟨gA, 0, none⟩) 68 cc (some ⟨gB, 0, none⟩) 2 cp) _ (Cells.range (hW.at_ 0 rfl)) Try.underlying30 rfl (by kernel_rfl) ?_
        exact hK _ _ (World.grownBy.refl _ _) rfl
      · refine Or.inl ⟨fun v w h => h, ?_⟩
        intro a W hW hb hd K hK
        have b106 : a.tmps[106]?.getD undef = _ := hd ⟨2, .data⟩ (by simp) rfl
        have b107 : a.tmps[107]?.getD undef = _ := hd ⟨3, .data⟩ (by simp) rfl
        have b108 : a.tmps[108]?.getD undef = _ := hd ⟨4, .data⟩ (by simp) rfl
        go_simp
        refine (Verify_at W W.heap.size 2 leaf root' d' ch' pt' (some ⟨gA, 0, none⟩) 68 cc (some ⟨gB, 0, none⟩) 2 cp HC.out HP.out HR.out HD.out (Els.of (hW.at_ 1 rfl) (hvs_each HC16.out) (by rw [hvs_len]; exact HC.out)) HC16.out (Els.of (hW.at_ 2 rfl) (hvs_each HP16.out) (by rw [hvs_len]; exact HP.out)) HP16.out (Nat.le_refl _)).mono ?_
        rintro e w' ⟨rfl, hb'⟩
        exact hK _ _ (grown_of_below hb') (congrArg Value.bool HV.out)
      · refine Or.inl ⟨fun v w h => h, ?_⟩
        intro a W hW hb hd K hK
        have b8 := hb 8 rfl
        refine wp_load_mid 40 (.tmp 8) rfl g8 0 (by simp [Act.eval, b8]) (pkCells 2 root') _ (Cells.range (hW.at_ 3 rfl)) Try.underlying40 rfl (by rw [pk_len _ _ HR.out]; kernel_rfl) ?_
        exact hK _ _ (World.grownBy.refl _ _) rfl
      · refine Or.inl ⟨fun v w h => h, ?_⟩
        intro a W hW hb hd K hK
        have b4 := hb 4 rfl
        refine wp_load_mid 27 (.tmp 4) rfl (w.heap.size + 1) 0 (by simp [Act.eval, b4]) (d'.map bv) _ (Cells.range (hW.at_ 4 rfl)) Try.underlying27 rfl (by rw [List.length_map, HD.out]; kernel_rfl) ?_
        exact hK _ _ (World.grownBy.refl _ _) rfl
      · refine Or.inl ⟨fun v w h => h, ?_⟩
        intro a W hW hb hd K hK
        have b11 := hb 11 rfl
        refine wp_load_mid 30 (.tmp 11) rfl g11 0 (by simp [Act.eval, b11]) (sgCells leaf (some ⟨gA, 0, none⟩) 68 cc (some ⟨gB, 0, none⟩) 2 cp) _ (Cells.range (hW.at_ 0 rfl)) Try.underlying30 rfl (by kernel_rfl) ?_
        exact hK _ _ (World.grownBy.refl _ _) rfl
      · refine Or.inl ⟨fun v w h => h, ?_⟩
        intro a W hW hb hd K hK
        have b110 : a.tmps[110]?.getD undef = _ := hd ⟨6, .data⟩ (by simp) rfl
        have b111 : a.tmps[111]?.getD undef = _ := hd ⟨7, .data⟩ (by simp) rfl
        have b112 : a.tmps[112]?.getD undef = _ := hd ⟨8, .data⟩ (by simp) rfl
        go_simp
        refine (refVerify_at W W.heap.size 2 leaf root' d' ch' pt' (some ⟨gA, 0, none⟩) 68 cc (some ⟨gB, 0, none⟩) 2 cp HC.out HP.out HR.out HD.out (Els.of (hW.at_ 1 rfl) (hvs_each HC16.out) (by rw [hvs_len]; exact HC.out)) HC16.out (Els.of (hW.at_ 2 rfl) (hvs_each HP16.out) (by rw [hvs_len]; exact HP.out)) HP16.out (Nat.le_refl _)).mono ?_
        rintro e w' ⟨rfl, hb'⟩
        exact hK _ _ (grown_of_below hb') (congrArg Value.bool HV.out)
      · refine Or.inl ⟨fun v w h => h, ?_⟩
        intro a W hW hb hd K hK
        have b109 : a.tmps[109]?.getD undef = _ := hd ⟨5, .data⟩ (by simp) rfl
        have b113 : a.tmps[113]?.getD undef = _ := hd ⟨9, .data⟩ (by simp) rfl
        go_simp
        exact hK _ _ (World.grownBy.refl _ _) rfl
      · intro a W hW hb hd K hK
        have b105 : a.tmps[105]?.getD undef = _ := hd ⟨1, .data⟩ (by simp) rfl
        have b114 : a.tmps[114]?.getD undef = _ := hd ⟨10, .data⟩ (by simp) rfl
        go_simp
        exact hK _ _ (World.grownBy.refl _ _) rfl
    case fin =>
      intro vs W hW hv
      have e11 : vs 11 = _ := hv 11 (by decide)
      clear hv
      simp only [putAll, List.drop_succ_cons, List.drop_zero, e11, Act.put, List.setIfInBounds_toArray, List.set_cons_succ, List.set_cons_zero]
      go_wp2_with fail
      go_ret
      exact ⟨rfl, (hW.at_ 6 rfl).1⟩
  · have q4' : p.tmod 5 % 5 = 3 := by rw [q4, hpp']; rfl
    have q5' : (p.tmod 5 + 5) % 5 = 3 := by omega
    clear q4
    obtain ⟨y, hy⟩ : ∃ y, d[s]? = some y := ⟨_, List.getElem?_eq_getElem (by rw [hdl.out]; omega)⟩
    have HY : Hid (∀ W, All W [.cells g11 30 (sgCells kn (some ⟨gA, 0, none⟩) 68 cc (some ⟨gB, 0, none⟩) 2 cp), .own b0 23 16 (some ⟨gA, 0, none⟩) 68 cc (hvs ch).flatten, .own b0 23 16 (some ⟨gB, 0, none⟩) 2 cp (hvs pt).flatten, .cells g8 40 (pkCells 2 root), .cells (w.heap.size + 1) 27 (d.map bv), .cells (w.heap.size + 1 + 1) 48 (chCells p i z), .kept w w.heap.size] → W.cell? ⟨w.heap.size + 1, s, none⟩ = some (.int .u8 (y.toNat : Int))) := Lib.hid (fun W hW => by
      have h1 := Cells.cell (hW.at_ 4 rfl : Cells W _ _ _) (i := s) (by simp [pkCells, hdl.out]; omega)
      rw [h1]
      congr 1
      exact Option.some.inj ((List.getElem?_eq_getElem _).symm.trans (map_at hy)))
    clear hy
    obtain ⟨x0, hx0⟩ : ∃ x0, x0 = y ^^^ z := ⟨_, rfl⟩
    have HX0 := Lib.hid hx0
    clear hx0
    go_wp2_with fail
    refine wp_region_hops 8 [96, 97, 98, 99, 100, 101, 102, 103] _
      [.eq (.int .i64 k), .eq (.int .i64 s), .eq (.pointer (some ⟨w.heap.size + 1, s, none⟩)), .eq (.int .u8 (y.toNat : Int)), .eq (.pointer (some ⟨w.heap.size + 1 + 1, 2, none⟩)), .eq (.int .u8 (z.toNat : Int)), .eq (.int .u8 (x0.toNat : Int)), .eq (.pointer (some ⟨w.heap.size + 1, s, none⟩))]
      (by kernel_rfl) (by kernel_rfl) hI rfl ?hops ?fin
    case hops =>
      refine ⟨?_, ?_, ?_, ?_, ?_, ?_, ?_, ?_, trivial⟩
      · intro a W hW hb hd K hK
        have b13 := hb 13 rfl
        go_simp
        exact hK _ _ (World.grownBy.refl _ _) rfl
      · intro a W hW hb hd K hK
        have b96 : a.tmps[96]?.getD undef = _ := hd ⟨0, .data⟩ (by simp) rfl
        go_simp
        exact hK _ _ (World.grownBy.refl _ _) rfl
      · intro a W hW hb hd K hK
        have b4 := hb 4 rfl
        have b97 : a.tmps[97]?.getD undef = _ := hd ⟨1, .data⟩ (by simp) rfl
        have q1 : (⟨w.heap.size + 1, 0, none⟩ : Addr).add s = ⟨w.heap.size + 1, s, none⟩ := by rw [add_lit, Nat.zero_add]
        go_simp
        exact hK _ _ (World.grownBy.refl _ _) rfl
      · intro a W hW hb hd K hK
        have b98 : a.tmps[98]?.getD undef = _ := hd ⟨2, .data⟩ (by simp) rfl
        have q1 : W.cell? ⟨w.heap.size + 1, s, none⟩ = some (.int .u8 (y.toNat : Int)) := HY.out W hW
        go_simp
        exact hK _ _ (World.grownBy.refl _ _) rfl
      · intro a W hW hb hd K hK
        have b5 := hb 5 rfl
        go_simp
        exact hK _ _ (World.grownBy.refl _ _) rfl
      · intro a W hW hb hd K hK
        have b100 : a.tmps[100]?.getD undef = _ := hd ⟨4, .data⟩ (by simp) rfl
        have q1 : W.cell? ⟨w.heap.size + 1 + 1, 2, none⟩ = some (.int .u8 (z.toNat : Int)) := Cells.cell (hW.at_ 5 rfl) (i := 2) (by simp [chCells])
        go_simp
        exact hK _ _ (World.grownBy.refl _ _) rfl
      · intro a W hW hb hd K hK
        have b99 : a.tmps[99]?.getD undef = _ := hd ⟨3, .data⟩ (by simp) rfl
        have b101 : a.tmps[101]?.getD undef = _ := hd ⟨5, .data⟩ (by simp) rfl
        go_simp
        exact hK _ _ (World.grownBy.refl _ _) ((bvx y z).trans (by rw [← HX0.out]; rfl))
      · intro a W hW hb hd K hK
        have b4 := hb 4 rfl
        have b97 : a.tmps[97]?.getD undef = _ := hd ⟨1, .data⟩ (by simp) rfl
        have q1 : (⟨w.heap.size + 1, 0, none⟩ : Addr).add s = ⟨w.heap.size + 1, s, none⟩ := by rw [add_lit, Nat.zero_add]
        go_simp
        exact hK _ _ (World.grownBy.refl _ _) rfl
    case fin =>
      intro vs V hV hv
      have e7 : vs 7 = _ := hv 7 (by decide)
      have e6 : vs 6 = _ := hv 6 (by decide)
      clear hv hI
      simp only [putAll, List.drop_succ_cons, List.drop_zero, e7, e6, Act.put, List.setIfInBounds_toArray, List.set_cons_succ, List.set_cons_zero]
      clear e7 e6
      have y1 : V.cell? ⟨w.heap.size + 1, s, none⟩ = some (.int .u8 (y.toNat : Int)) := HY.out V hV
      have y2 : V.frozen? ⟨w.heap.size + 1, s, none⟩ = false := Cells.frozen (hV.at_ 4 rfl) _
      go_wp2_with fail
      clear y1 y2 HY
      refine wp_genP (Pr := fun w' => ∃ (leaf : Int) (ch' pt' : List (List UInt8)) (root' d' : List UInt8), All w' [.cells g11 30 (sgCells leaf (some ⟨gA, 0, none⟩) 68 cc (some ⟨gB, 0, none⟩) 2 cp), .own b0 23 16 (some ⟨gA, 0, none⟩) 68 cc (hvs ch').flatten, .own b0 23 16 (some ⟨gB, 0, none⟩) 2 cp (hvs pt').flatten, .cells g8 40 (pkCells 2 root'), .cells (w.heap.size + 1) 27 (d'.map bv), .cells (w.heap.size + 1 + 1) 48 (chCells p i z), .kept w w.heap.size] ∧ ch'.length = 68 ∧ (∀ x ∈ ch', x.length = 16) ∧ pt'.length = 2 ∧ (∀ x ∈ pt', x.length = 16) ∧ root'.length = 16 ∧ d'.length = 32) ⟨kn, ch, pt, root, d.set s x0, (by have := hV.store 4 rfl s (bv x0) (by simp [Apart, Res.apart, hAB, hAB.symm, Value.ownBlock] <;> omega); simp only [List.set_cons_zero, List.set_cons_succ] at this; rw [← List.map_set] at this; exact this), HCL.out, HC16.out, HPL.out, HP16.out, hr16.out, (by rw [List.length_set]; exact hdl.out)⟩ ?_
      clear hV
      clear c0 c1
      try clear hI
      rintro W5 ⟨leaf, ch', pt', root', d', hF, hc, hc16, hp, hp16, hr', hd'⟩
      have HC := Lib.hid hc
      have HC16 := Lib.hid hc16
      have HP := Lib.hid hp
      have HP16 := Lib.hid hp16
      have HR := Lib.hid hr'
      have HD := Lib.hid hd'
      obtain ⟨v, hv⟩ : ∃ v, v = verifyB 2 leaf root' d' ch' pt' := ⟨_, rfl⟩
      have HV : Hid (verifyB 2 leaf root' d' ch' pt' = v) := Lib.hid hv.symm
      clear hc hc16 hp hp16 hr' hd' hv
      go_wp2_with fail
      refine wp_region_hops 12 [104, 105, 106, 107, 108, 109, 110, 111, 112, 113, 114, 115] _
        [.eq (.bool true), .eq (.bool true), .eq (.agg (pkCells 2 root').toArray), .eq (.agg (d'.map bv).toArray), .eq (.agg (sgCells leaf (some ⟨gA, 0, none⟩) 68 cc (some ⟨gB, 0, none⟩) 2 cp).toArray), .eq (.bool v), .eq (.agg (pkCells 2 root').toArray), .eq (.agg (d'.map bv).toArray), .eq (.agg (sgCells leaf (some ⟨gA, 0, none⟩) 68 cc (some ⟨gB, 0, none⟩) 2 cp).toArray), .eq (.bool v), .eq (.bool true), .eq (.bool true)]
        (by kernel_rfl) (by kernel_rfl) hF rfl ?hops ?fin
      case hops =>
        refine ⟨?_, ?_, ?_, ?_, ?_, ?_, ?_, ?_, ?_, ?_, ?_, ?_, trivial⟩
        · intro a W hW hb hd K hK
          go_simp
          refine (awake_any W).mono ?_
          rintro e w' ⟨rfl, hb'⟩
          exact hK _ _ (grown_of_below hb') rfl
        · intro a W hW hb hd K hK
          have b104 : a.tmps[104]?.getD undef = _ := hd ⟨0, .data⟩ (by simp) rfl
          go_simp
          exact hK _ _ (World.grownBy.refl _ _) rfl
        · refine Or.inl ⟨fun v w h => h, ?_⟩
          intro a W hW hb hd K hK
          have b8 := hb 8 rfl
          refine wp_load_mid 40 (.tmp 8) rfl g8 0 (by simp [Act.eval, b8]) (pkCells 2 root') _ (Cells.range (hW.at_ 3 rfl)) Try.underlying40 rfl (by rw [pk_len _ _ HR.out]; kernel_rfl) ?_
          exact hK _ _ (World.grownBy.refl _ _) rfl
        · refine Or.inl ⟨fun v w h => h, ?_⟩
          intro a W hW hb hd K hK
          have b4 := hb 4 rfl
          refine wp_load_mid 27 (.tmp 4) rfl (w.heap.size + 1) 0 (by simp [Act.eval, b4]) (d'.map bv) _ (Cells.range (hW.at_ 4 rfl)) Try.underlying27 rfl (by rw [List.length_map, HD.out]; kernel_rfl) ?_
          exact hK _ _ (World.grownBy.refl _ _) rfl
        · refine Or.inl ⟨fun v w h => h, ?_⟩
          intro a W hW hb hd K hK
          have b11 := hb 11 rfl
          refine wp_load_mid 30 (.tmp 11) rfl g11 0 (by simp [Act.eval, b11]) (sgCells leaf (some ⟨gA, 0, none⟩) 68 cc (some ⟨gB, 0, none⟩) 2 cp) _ (Cells.range (hW.at_ 0 rfl)) Try.underlying30 rfl (by kernel_rfl) ?_
          exact hK _ _ (World.grownBy.refl _ _) rfl
        · refine Or.inl ⟨fun v w h => h, ?_⟩
          intro a W hW hb hd K hK
          have b106 : a.tmps[106]?.getD undef = _ := hd ⟨2, .data⟩ (by simp) rfl
          have b107 : a.tmps[107]?.getD undef = _ := hd ⟨3, .data⟩ (by simp) rfl
          have b108 : a.tmps[108]?.getD undef = _ := hd ⟨4, .data⟩ (by simp) rfl
          go_simp
          refine (Verify_at W W.heap.size 2 leaf root' d' ch' pt' (some ⟨gA, 0, none⟩) 68 cc (some ⟨gB, 0, none⟩) 2 cp HC.out HP.out HR.out HD.out (Els.of (hW.at_ 1 rfl) (hvs_each HC16.out) (by rw [hvs_len]; exact HC.out)) HC16.out (Els.of (hW.at_ 2 rfl) (hvs_each HP16.out) (by rw [hvs_len]; exact HP.out)) HP16.out (Nat.le_refl _)).mono ?_
          rintro e w' ⟨rfl, hb'⟩
          exact hK _ _ (grown_of_below hb') (congrArg Value.bool HV.out)
        · refine Or.inl ⟨fun v w h => h, ?_⟩
          intro a W hW hb hd K hK
          have b8 := hb 8 rfl
          refine wp_load_mid 40 (.tmp 8) rfl g8 0 (by simp [Act.eval, b8]) (pkCells 2 root') _ (Cells.range (hW.at_ 3 rfl)) Try.underlying40 rfl (by rw [pk_len _ _ HR.out]; kernel_rfl) ?_
          exact hK _ _ (World.grownBy.refl _ _) rfl
        · refine Or.inl ⟨fun v w h => h, ?_⟩
          intro a W hW hb hd K hK
          have b4 := hb 4 rfl
          refine wp_load_mid 27 (.tmp 4) rfl (w.heap.size + 1) 0 (by simp [Act.eval, b4]) (d'.map bv) _ (Cells.range (hW.at_ 4 rfl)) Try.underlying27 rfl (by rw [List.length_map, HD.out]; kernel_rfl) ?_
          exact hK _ _ (World.grownBy.refl _ _) rfl
        · refine Or.inl ⟨fun v w h => h, ?_⟩
          intro a W hW hb hd K hK
          have b11 := hb 11 rfl
          refine wp_load_mid 30 (.tmp 11) rfl g11 0 (by simp [Act.eval, b11]) (sgCells leaf (some ⟨gA, 0, none⟩) 68 cc (some ⟨gB, 0, none⟩) 2 cp) _ (Cells.range (hW.at_ 0 rfl)) Try.underlying30 rfl (by kernel_rfl) ?_
          exact hK _ _ (World.grownBy.refl _ _) rfl
        · refine Or.inl ⟨fun v w h => h, ?_⟩
          intro a W hW hb hd K hK
          have b110 : a.tmps[110]?.getD undef = _ := hd ⟨6, .data⟩ (by simp) rfl
          have b111 : a.tmps[111]?.getD undef = _ := hd ⟨7, .data⟩ (by simp) rfl
          have b112 : a.tmps[112]?.getD undef = _ := hd ⟨8, .data⟩ (by simp) rfl
          go_simp
          refine (refVerify_at W W.heap.size 2 leaf root' d' ch' pt' (some ⟨gA, 0, none⟩) 68 cc (some ⟨gB, 0, none⟩) 2 cp HC.out HP.out HR.out HD.out (Els.of (hW.at_ 1 rfl) (hvs_each HC16.out) (by rw [hvs_len]; exact HC.out)) HC16.out (Els.of (hW.at_ 2 rfl) (hvs_each HP16.out) (by rw [hvs_len]; exact HP.out)) HP16.out (Nat.le_refl _)).mono ?_
          rintro e w' ⟨rfl, hb'⟩
          exact hK _ _ (grown_of_below hb') (congrArg Value.bool HV.out)
        · refine Or.inl ⟨fun v w h => h, ?_⟩
          intro a W hW hb hd K hK
          have b109 : a.tmps[109]?.getD undef = _ := hd ⟨5, .data⟩ (by simp) rfl
          have b113 : a.tmps[113]?.getD undef = _ := hd ⟨9, .data⟩ (by simp) rfl
          go_simp
          exact hK _ _ (World.grownBy.refl _ _) rfl
        · intro a W hW hb hd K hK
          have b105 : a.tmps[105]?.getD undef = _ := hd ⟨1, .data⟩ (by simp) rfl
          have b114 : a.tmps[114]?.getD undef = _ := hd ⟨10, .data⟩ (by simp) rfl
          go_simp
          exact hK _ _ (World.grownBy.refl _ _) rfl
      case fin =>
        intro vs W hW hv
        have e11 : vs 11 = _ := hv 11 (by decide)
        clear hv
        simp only [putAll, List.drop_succ_cons, List.drop_zero, e11, Act.put, List.setIfInBounds_toArray, List.set_cons_succ, List.set_cons_zero]
        go_wp2_with fail
        go_ret
        exact ⟨rfl, (hW.at_ 6 rfl).1⟩
  · have q4' : p.tmod 5 % 5 = 4 := by rw [q4, hpp']; rfl
    have q5' : (p.tmod 5 + 5) % 5 = 4 := by omega
    clear q4
    obtain ⟨y, hy⟩ : ∃ y, root[r]? = some y := ⟨_, List.getElem?_eq_getElem (by rw [hr16.out]; omega)⟩
    have HY : Hid (∀ W, All W [.cells g11 30 (sgCells kn (some ⟨gA, 0, none⟩) 68 cc (some ⟨gB, 0, none⟩) 2 cp), .own b0 23 16 (some ⟨gA, 0, none⟩) 68 cc (hvs ch).flatten, .own b0 23 16 (some ⟨gB, 0, none⟩) 2 cp (hvs pt).flatten, .cells g8 40 (pkCells 2 root), .cells (w.heap.size + 1) 27 (d.map bv), .cells (w.heap.size + 1 + 1) 48 (chCells p i z), .kept w w.heap.size] → W.cell? ⟨g8, 1 + r, none⟩ = some (.int .u8 (y.toNat : Int))) := Lib.hid (fun W hW => by
      have h1 := Cells.cell (hW.at_ 3 rfl : Cells W _ _ _) (i := 1 + r) (by simp [pkCells, hr16.out]; omega)
      rw [h1]
      congr 1
      exact Option.some.inj ((List.getElem?_eq_getElem _).symm.trans (pk_at hy)))
    clear hy
    obtain ⟨x0, hx0⟩ : ∃ x0, x0 = y ^^^ z := ⟨_, rfl⟩
    have HX0 := Lib.hid hx0
    clear hx0
    go_wp2_with fail
    refine wp_region_hops 10 [43, 44, 45, 46, 47, 48, 49, 50, 51, 52] _
      [.eq (.int .i64 k), .eq (.int .i64 r), .eq (.pointer (some ⟨g8, 1, none⟩)), .eq (.pointer (some ⟨g8, 1 + r, none⟩)), .eq (.int .u8 (y.toNat : Int)), .eq (.pointer (some ⟨w.heap.size + 1 + 1, 2, none⟩)), .eq (.int .u8 (z.toNat : Int)), .eq (.int .u8 (x0.toNat : Int)), .eq (.pointer (some ⟨g8, 1, none⟩)), .eq (.pointer (some ⟨g8, 1 + r, none⟩))]
      (by kernel_rfl) (by kernel_rfl) hI rfl ?hops ?fin
    case hops =>
      refine ⟨?_, ?_, ?_, ?_, ?_, ?_, ?_, ?_, ?_, ?_, trivial⟩
      · intro a W hW hb hd K hK
        have b13 := hb 13 rfl
        go_simp
        exact hK _ _ (World.grownBy.refl _ _) rfl
      · intro a W hW hb hd K hK
        have b43 : a.tmps[43]?.getD undef = _ := hd ⟨0, .data⟩ (by simp) rfl
        go_simp
        exact hK _ _ (World.grownBy.refl _ _) rfl
      · intro a W hW hb hd K hK
        have b8 := hb 8 rfl
        go_simp
        exact hK _ _ (World.grownBy.refl _ _) rfl
      · intro a W hW hb hd K hK
        have b45 : a.tmps[45]?.getD undef = _ := hd ⟨2, .data⟩ (by simp) rfl
        have b44 : a.tmps[44]?.getD undef = _ := hd ⟨1, .data⟩ (by simp) rfl
        have q1 : (⟨g8, 1, none⟩ : Addr).add r = ⟨g8, 1 + r, none⟩ := add_lit _ _ _
        go_simp
        exact hK _ _ (World.grownBy.refl _ _) rfl
      · intro a W hW hb hd K hK
        have b46 : a.tmps[46]?.getD undef = _ := hd ⟨3, .data⟩ (by simp) rfl
        have q1 : W.cell? ⟨g8, 1 + r, none⟩ = some (.int .u8 (y.toNat : Int)) := HY.out W hW
        go_simp
        exact hK _ _ (World.grownBy.refl _ _) rfl
      · intro a W hW hb hd K hK
        have b5 := hb 5 rfl
        go_simp
        exact hK _ _ (World.grownBy.refl _ _) rfl
      · intro a W hW hb hd K hK
        have b48 : a.tmps[48]?.getD undef = _ := hd ⟨5, .data⟩ (by simp) rfl
        have q1 : W.cell? ⟨w.heap.size + 1 + 1, 2, none⟩ = some (.int .u8 (z.toNat : Int)) := Cells.cell (hW.at_ 5 rfl) (i := 2) (by simp [chCells])
        go_simp
        exact hK _ _ (World.grownBy.refl _ _) rfl
      · intro a W hW hb hd K hK
        have b47 : a.tmps[47]?.getD undef = _ := hd ⟨4, .data⟩ (by simp) rfl
        have b49 : a.tmps[49]?.getD undef = _ := hd ⟨6, .data⟩ (by simp) rfl
        go_simp
        exact hK _ _ (World.grownBy.refl _ _) ((bvx y z).trans (by rw [← HX0.out]; rfl))
      · intro a W hW hb hd K hK
        have b8 := hb 8 rfl
        go_simp
        exact hK _ _ (World.grownBy.refl _ _) rfl
      · intro a W hW hb hd K hK
        have b51 : a.tmps[51]?.getD undef = _ := hd ⟨8, .data⟩ (by simp) rfl
        have b44 : a.tmps[44]?.getD undef = _ := hd ⟨1, .data⟩ (by simp) rfl
        have q1 : (⟨g8, 1, none⟩ : Addr).add r = ⟨g8, 1 + r, none⟩ := add_lit _ _ _
        go_simp
        exact hK _ _ (World.grownBy.refl _ _) rfl
    case fin =>
      intro vs V hV hv
      have e9 : vs 9 = _ := hv 9 (by decide)
      have e7 : vs 7 = _ := hv 7 (by decide)
      clear hv hI
      simp only [putAll, List.drop_succ_cons, List.drop_zero, e9, e7, Act.put, List.setIfInBounds_toArray, List.set_cons_succ, List.set_cons_zero]
      clear e9 e7
      have y1 : V.cell? ⟨g8, 1 + r, none⟩ = some (.int .u8 (y.toNat : Int)) := HY.out V hV
      have y2 : V.frozen? ⟨g8, 1 + r, none⟩ = false := Cells.frozen (hV.at_ 3 rfl) _
      go_wp2_with fail
      clear y1 y2 HY
      refine wp_genP (Pr := fun w' => ∃ (leaf : Int) (ch' pt' : List (List UInt8)) (root' d' : List UInt8), All w' [.cells g11 30 (sgCells leaf (some ⟨gA, 0, none⟩) 68 cc (some ⟨gB, 0, none⟩) 2 cp), .own b0 23 16 (some ⟨gA, 0, none⟩) 68 cc (hvs ch').flatten, .own b0 23 16 (some ⟨gB, 0, none⟩) 2 cp (hvs pt').flatten, .cells g8 40 (pkCells 2 root'), .cells (w.heap.size + 1) 27 (d'.map bv), .cells (w.heap.size + 1 + 1) 48 (chCells p i z), .kept w w.heap.size] ∧ ch'.length = 68 ∧ (∀ x ∈ ch', x.length = 16) ∧ pt'.length = 2 ∧ (∀ x ∈ pt', x.length = 16) ∧ root'.length = 16 ∧ d'.length = 32) ⟨kn, ch, pt, root.set r x0, d, (by have := hV.store 3 rfl (1 + r) (bv x0) (by simp [Apart, Res.apart, hAB, hAB.symm, Value.ownBlock] <;> omega); simp only [List.set_cons_zero, List.set_cons_succ] at this; rw [pk_set] at this; exact this), HCL.out, HC16.out, HPL.out, HP16.out, (by rw [List.length_set]; exact hr16.out), hdl.out⟩ ?_
      clear hV
      clear c0 c1
      try clear hI
      rintro W5 ⟨leaf, ch', pt', root', d', hF, hc, hc16, hp, hp16, hr', hd'⟩
      have HC := Lib.hid hc
      have HC16 := Lib.hid hc16
      have HP := Lib.hid hp
      have HP16 := Lib.hid hp16
      have HR := Lib.hid hr'
      have HD := Lib.hid hd'
      obtain ⟨v, hv⟩ : ∃ v, v = verifyB 2 leaf root' d' ch' pt' := ⟨_, rfl⟩
      have HV : Hid (verifyB 2 leaf root' d' ch' pt' = v) := Lib.hid hv.symm
      clear hc hc16 hp hp16 hr' hd' hv
      go_wp2_with fail
      refine wp_region_hops 12 [104, 105, 106, 107, 108, 109, 110, 111, 112, 113, 114, 115] _
        [.eq (.bool true), .eq (.bool true), .eq (.agg (pkCells 2 root').toArray), .eq (.agg (d'.map bv).toArray), .eq (.agg (sgCells leaf (some ⟨gA, 0, none⟩) 68 cc (some ⟨gB, 0, none⟩) 2 cp).toArray), .eq (.bool v), .eq (.agg (pkCells 2 root').toArray), .eq (.agg (d'.map bv).toArray), .eq (.agg (sgCells leaf (some ⟨gA, 0, none⟩) 68 cc (some ⟨gB, 0, none⟩) 2 cp).toArray), .eq (.bool v), .eq (.bool true), .eq (.bool true)]
        (by kernel_rfl) (by kernel_rfl) hF rfl ?hops ?fin
      case hops =>
        refine ⟨?_, ?_, ?_, ?_, ?_, ?_, ?_, ?_, ?_, ?_, ?_, ?_, trivial⟩
        · intro a W hW hb hd K hK
          go_simp
          refine (awake_any W).mono ?_
          rintro e w' ⟨rfl, hb'⟩
          exact hK _ _ (grown_of_below hb') rfl
        · intro a W hW hb hd K hK
          have b104 : a.tmps[104]?.getD undef = _ := hd ⟨0, .data⟩ (by simp) rfl
          go_simp
          exact hK _ _ (World.grownBy.refl _ _) rfl
        · refine Or.inl ⟨fun v w h => h, ?_⟩
          intro a W hW hb hd K hK
          have b8 := hb 8 rfl
          refine wp_load_mid 40 (.tmp 8) rfl g8 0 (by simp [Act.eval, b8]) (pkCells 2 root') _ (Cells.range (hW.at_ 3 rfl)) Try.underlying40 rfl (by rw [pk_len _ _ HR.out]; kernel_rfl) ?_
          exact hK _ _ (World.grownBy.refl _ _) rfl
        · refine Or.inl ⟨fun v w h => h, ?_⟩
          intro a W hW hb hd K hK
          have b4 := hb 4 rfl
          refine wp_load_mid 27 (.tmp 4) rfl (w.heap.size + 1) 0 (by simp [Act.eval, b4]) (d'.map bv) _ (Cells.range (hW.at_ 4 rfl)) Try.underlying27 rfl (by rw [List.length_map, HD.out]; kernel_rfl) ?_
          exact hK _ _ (World.grownBy.refl _ _) rfl
        · refine Or.inl ⟨fun v w h => h, ?_⟩
          intro a W hW hb hd K hK
          have b11 := hb 11 rfl
          refine wp_load_mid 30 (.tmp 11) rfl g11 0 (by simp [Act.eval, b11]) (sgCells leaf (some ⟨gA, 0, none⟩) 68 cc (some ⟨gB, 0, none⟩) 2 cp) _ (Cells.range (hW.at_ 0 rfl)) Try.underlying30 rfl (by kernel_rfl) ?_
          exact hK _ _ (World.grownBy.refl _ _) rfl
        · refine Or.inl ⟨fun v w h => h, ?_⟩
          intro a W hW hb hd K hK
          have b106 : a.tmps[106]?.getD undef = _ := hd ⟨2, .data⟩ (by simp) rfl
          have b107 : a.tmps[107]?.getD undef = _ := hd ⟨3, .data⟩ (by simp) rfl
          have b108 : a.tmps[108]?.getD undef = _ := hd ⟨4, .data⟩ (by simp) rfl
          go_simp
          refine (Verify_at W W.heap.size 2 leaf root' d' ch' pt' (some ⟨gA, 0, none⟩) 68 cc (some ⟨gB, 0, none⟩) 2 cp HC.out HP.out HR.out HD.out (Els.of (hW.at_ 1 rfl) (hvs_each HC16.out) (by rw [hvs_len]; exact HC.out)) HC16.out (Els.of (hW.at_ 2 rfl) (hvs_each HP16.out) (by rw [hvs_len]; exact HP.out)) HP16.out (Nat.le_refl _)).mono ?_
          rintro e w' ⟨rfl, hb'⟩
          exact hK _ _ (grown_of_below hb') (congrArg Value.bool HV.out)
        · refine Or.inl ⟨fun v w h => h, ?_⟩
          intro a W hW hb hd K hK
          have b8 := hb 8 rfl
          refine wp_load_mid 40 (.tmp 8) rfl g8 0 (by simp [Act.eval, b8]) (pkCells 2 root') _ (Cells.range (hW.at_ 3 rfl)) Try.underlying40 rfl (by rw [pk_len _ _ HR.out]; kernel_rfl) ?_
          exact hK _ _ (World.grownBy.refl _ _) rfl
        · refine Or.inl ⟨fun v w h => h, ?_⟩
          intro a W hW hb hd K hK
          have b4 := hb 4 rfl
          refine wp_load_mid 27 (.tmp 4) rfl (w.heap.size + 1) 0 (by simp [Act.eval, b4]) (d'.map bv) _ (Cells.range (hW.at_ 4 rfl)) Try.underlying27 rfl (by rw [List.length_map, HD.out]; kernel_rfl) ?_
          exact hK _ _ (World.grownBy.refl _ _) rfl
        · refine Or.inl ⟨fun v w h => h, ?_⟩
          intro a W hW hb hd K hK
          have b11 := hb 11 rfl
          refine wp_load_mid 30 (.tmp 11) rfl g11 0 (by simp [Act.eval, b11]) (sgCells leaf (some ⟨gA, 0, none⟩) 68 cc (some ⟨gB, 0, none⟩) 2 cp) _ (Cells.range (hW.at_ 0 rfl)) Try.underlying30 rfl (by kernel_rfl) ?_
          exact hK _ _ (World.grownBy.refl _ _) rfl
        · refine Or.inl ⟨fun v w h => h, ?_⟩
          intro a W hW hb hd K hK
          have b110 : a.tmps[110]?.getD undef = _ := hd ⟨6, .data⟩ (by simp) rfl
          have b111 : a.tmps[111]?.getD undef = _ := hd ⟨7, .data⟩ (by simp) rfl
          have b112 : a.tmps[112]?.getD undef = _ := hd ⟨8, .data⟩ (by simp) rfl
          go_simp
          refine (refVerify_at W W.heap.size 2 leaf root' d' ch' pt' (some ⟨gA, 0, none⟩) 68 cc (some ⟨gB, 0, none⟩) 2 cp HC.out HP.out HR.out HD.out (Els.of (hW.at_ 1 rfl) (hvs_each HC16.out) (by rw [hvs_len]; exact HC.out)) HC16.out (Els.of (hW.at_ 2 rfl) (hvs_each HP16.out) (by rw [hvs_len]; exact HP.out)) HP16.out (Nat.le_refl _)).mono ?_
          rintro e w' ⟨rfl, hb'⟩
          exact hK _ _ (grown_of_below hb') (congrArg Value.bool HV.out)
        · refine Or.inl ⟨fun v w h => h, ?_⟩
          intro a W hW hb hd K hK
          have b109 : a.tmps[109]?.getD undef = _ := hd ⟨5, .data⟩ (by simp) rfl
          have b113 : a.tmps[113]?.getD undef = _ := hd ⟨9, .data⟩ (by simp) rfl
          go_simp
          exact hK _ _ (World.grownBy.refl _ _) rfl
        · intro a W hW hb hd K hK
          have b105 : a.tmps[105]?.getD undef = _ := hd ⟨1, .data⟩ (by simp) rfl
          have b114 : a.tmps[114]?.getD undef = _ := hd ⟨10, .data⟩ (by simp) rfl
          go_simp
          exact hK _ _ (World.grownBy.refl _ _) rfl
      case fin =>
        intro vs W hW hv
        have e11 : vs 11 = _ := hv 11 (by decide)
        clear hv
        simp only [putAll, List.drop_succ_cons, List.drop_zero, e11, Act.put, List.setIfInBounds_toArray, List.set_cons_succ, List.set_cons_zero]
        go_wp2_with fail
        go_ret
        exact ⟨rfl, (hW.at_ 6 rfl).1⟩
end Go.Proofs.Ytlnbeglelhdjfaa

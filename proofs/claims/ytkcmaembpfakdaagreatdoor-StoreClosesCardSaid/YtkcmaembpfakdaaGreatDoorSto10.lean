/- Put: what it answers, and the program's. -/
import Derived.Test.YtkcmaembpfakdaaGreatDoorSto9
import Derived.Test.YtkcmaembpfakdaaGreatDoorFreeC
import Derived.Test.YtkcmaembpfakdaaGreatDoorShaA
set_option linter.unusedSimpArgs false
set_option linter.unusedVariables false
set_option maxRecDepth 100000
namespace Go.Adm
open Go Go.RowKit
theorem results_tmp_row_tmp {P : Program} {fn : Func} {o p q : Tmp} {ty : TypeId} (h : fn.results = #[.tmp o, .cell p ty, .tmp q]) (tmps : Array Value) (w : World) (g : Nat) (t : TypeId) (cs : Array Value) (fr : Nat × Nat) (d : TypeDesc)
    (hp : tmps.getD p undef = .pointer (some ⟨g, 0, none⟩)) (hg : w.heap[g]? = some (.cells cs t fr))
    (hu : P.underlying ty = some d) (hd : (match d with | .struct _ | .array _ _ => true | _ => false) = true) (hi : (P.info? ty).map (·.size) = some cs.size) :
    (results fn tmps).run P w = .ok (.tuple #[tmps.getD o undef, .agg cs, tmps.getD q undef]) w := by
  have hp' : tmps[p]?.getD undef = .pointer (some ⟨g, 0, none⟩) := by simpa using hp
  simp [results, h, hp', asAddr, run_loadVar_row w g t ty cs fr d hg hu hd hi]
/-- the store after a put, the digest, the error -/
def put3 (l : List Bl) (d b : List UInt8) : List (List UInt8 × List UInt8) × List UInt8 × Int :=
  if validB l = true then
    if b.length ≤ 262144 then
      if (lookB l d).isSome = true then (l.map pr, d, 0)
      else if l.length = 256 then ([], z32, 3)
      else ((l.map pr).take (placeB l d) ++ (d, b) :: (l.map pr).drop (placeB l d), d, 0)
    else ([], z32, 3)
  else ([], z32, 1)
theorem put3_bad {l : List Bl} {d b : List UInt8} (h : validB l = false) : put3 l d b = ([], z32, 1) := by
  unfold put3; rw [if_neg (by rw [h]; decide)]
theorem put3_long {l : List Bl} {d b : List UInt8} (h : validB l = true) (h2 : 262144 < b.length) : put3 l d b = ([], z32, 3) := by
  unfold put3; rw [if_pos h, if_neg (by omega)]
theorem put3_had {l : List Bl} {d b : List UInt8} (h : validB l = true) (h2 : b.length ≤ 262144) (h3 : (lookB l d).isSome = true) : put3 l d b = (l.map pr, d, 0) := by
  unfold put3; rw [if_pos h, if_pos h2, if_pos h3]
theorem put3_full {l : List Bl} {d b : List UInt8} (h : validB l = true) (h2 : b.length ≤ 262144) (h3 : (lookB l d).isSome = false) (h4 : l.length = 256) : put3 l d b = ([], z32, 3) := by
  unfold put3; rw [if_pos h, if_pos h2, if_neg (by rw [h3]; decide), if_pos h4]
theorem put3_new {l : List Bl} {d b : List UInt8} (h : validB l = true) (h2 : b.length ≤ 262144) (h3 : (lookB l d).isSome = false) (h4 : l.length ≠ 256) : put3 l d b = ((l.map pr).take (placeB l d) ++ (d, b) :: (l.map pr).drop (placeB l d), d, 0) := by
  unfold put3; rw [if_pos h, if_pos h2, if_neg (by rw [h3]; decide), if_neg h4]
def PutPost (l : List Bl) (d b : List UInt8) (w : World) (e : Ending) (w' : World) : Prop :=
  ∃ A' n' c' l', e = .returned (.tuple #[.slice A' n' c', .agg ((put3 l d b).2.1.map bv).toArray, .int .i64 (put3 l d b).2.2]) ∧ Blobs w' w'.heap.size A' n' l' ∧ n' ≤ c' ∧ c' ≤ maxLen ∧ l'.map pr = (put3 l d b).1 ∧ Below w.heap.size w w'
theorem Blobs.nil {w : World} {B : Nat} : Blobs w B none 0 [] := ⟨⟨Rd.nil, (fun e he => by cases he), rfl⟩, (fun x hx => by cases hx), rfl⟩
/-- a store of one's own in block g -/
def StoG (t : TypeId) (g : Nat) (Pl : List (List UInt8 × List UInt8)) (m c : Nat) (w : World) (v : Value) : Prop :=
  ∃ l' cs, v = .slice (some ⟨g, 0, none⟩) m c ∧ l'.map pr = Pl ∧ l'.length = m ∧ cs.take (m * 33) = (l'.map blC).flatten ∧ cs.length = c * 33 ∧ Cells w g t cs ∧ (Res.dat g l').ok w
theorem dat_low {g q : Nat} {l : List Bl} (h : q < g + 1) : (Res.dat g l).apart (some q) := fun b hb => by
  injection hb with hb
  subst hb
  exact ⟨Nat.zero_le _, Or.inl h⟩
theorem wp_bld {P : Program} {o : Oper} {a : Act} {w : World} {K : Act → World → Prop} {Q : Exit → Act → World → Prop} (t : TypeId) (parts : List (Nat × Operand)) (ho : o.op = .build t parts.toArray)
    (fields : Array Field) (z : Value) (places : Array (Nat × Nat)) (cells : Array Value)
    (hz : ∀ w, (zeroValue t).run P w = .ok z w) (hu : P.underlying t = some (.struct fields)) (hp : ∀ w, (placesOf fields).run P w = .ok places w)
    (hf : Instr.fill (places[·]?) z.cells (parts.map fun x => (x.1, a.eval x.2)) = some cells)
    (h : K (a.put o.dst (.agg cells)) w) : o.wp P a w K Q := by
  have hf' : Instr.fill (places[·]?) z.cells ((parts.toArray.map fun (i, x) => (i, a.eval x)).toList) = some cells := by
    rw [Array.toList_map]; exact hf
  unfold Oper.wp execOp
  simp only [ho, Sem.run_bind, run_build_struct w t fields z places _ cells (hz w) hu (hp w) hf', Result.andThen_ok]
  exact h
theorem StoG.grown {t : TypeId} {g m c : Nat} {Pl : List (List UInt8 × List UInt8)} {w w' : World} {v : Value} (hg : w.grownBy w' none) : StoG t g Pl m c w v → StoG t g Pl m c w' v := by
  rintro ⟨l', cs, h1, h2, h3, h4, h5, h6, h7⟩
  exact ⟨l', cs, h1, h2, h3, h4, h5, h6.grown hg (by simp), Res.step (r := .dat g l') hg h7 (Res.apart_none _)⟩
def VF.stoG (t : TypeId) (g : Nat) (Pl : List (List UInt8 × List UInt8)) (m c : Nat) : VF := .gen (StoG t g Pl m c) fun _ _ _ hg h => h.grown hg
def VF.stoA (t : TypeId) (B : Nat) (Pl : List (List UInt8 × List UInt8)) (m c : Nat) : VF := .gen (fun w v => ∃ g, B ≤ g ∧ StoG t g Pl m c w v) fun _ _ _ hg ⟨g, h1, h⟩ => ⟨g, h1, h.grown hg⟩
def VF.dup (t : TypeId) (s0 nd : Nat) (d b : List UInt8) : VF := .gen (fun w v => ∃ gd, s0 < gd ∧ v = .agg (blC ⟨d, some ⟨gd, 0, none⟩, nd, nd, b⟩).toArray ∧ Cells w gd t (b.map bv)) fun _ _ _ hg ⟨gd, h1, h2, h3⟩ => ⟨gd, h1, h2, h3.grown hg (by simp)⟩
def VF.lit (t t8 : TypeId) (s0 nd : Nat) (d b : List UInt8) : VF := .gen (fun w v => ∃ g2 gd, s0 < g2 ∧ s0 < gd ∧ v = .slice (some ⟨g2, 0, none⟩) 1 1 ∧ Cells w g2 t (blC ⟨d, some ⟨gd, 0, none⟩, nd, nd, b⟩) ∧ Cells w gd t8 (b.map bv)) fun _ _ _ hg ⟨g2, gd, h1, h2, h3, h4, h5⟩ => ⟨g2, gd, h1, h2, h3, h4.grown hg (by simp), h5.grown hg (by simp)⟩
/-- what is known in the midst of the last region -/
def JPut (s0 : Nat) (rs : List Res) (fs : List VF) (L : Nat → Bool) (vs : Nat → Value) (w : World) : Prop :=
  JW 8 [1, 6, 7] rs fs L vs w ∧ (L 1 = false → w.heap.size = s0) ∧ (L 10 = true → L 8 = true ∧ vs 10 = vs 8) ∧ (L 8 = true → L 6 = true ∧ L 7 = true)
section
variable {s0 : Nat} {rs : List Res} {fs : List VF} {L : Nat → Bool} {vs : Nat → Value} {w w' : World}
theorem JPut.quiet {k : Nat} {v : Value} (h : JPut s0 rs fs L vs w) (hg : w.grownBy w' none) (h8 : k ≠ 8) (h10 : k ≠ 10) (hs : k ≠ 1 → L 1 = false → w'.heap.size = w.heap.size) (hv : VF.at fs k v w') :
    JPut s0 rs fs (markC L k) (fun i => if i = k then v else vs i) w' := by
  refine ⟨h.1.quiet hg h8 hv, fun h1 => ?_, fun h1 => ?_, fun h1 => ?_⟩
  · by_cases hk : k = 1
    · subst hk; simp [markC] at h1
    · have : L 1 = false := by simpa [markC, Ne.symm hk] using h1
      rw [hs hk this, h.2.1 this]
  · have : L 10 = true := by simpa [markC, Ne.symm h10] using h1
    obtain ⟨h2, h3⟩ := h.2.2.1 this
    refine ⟨by simp [markC, Ne.symm h8, h2], ?_⟩
    simp only [if_neg (Ne.symm h8), if_neg (Ne.symm h10)]
    exact h3
  · have : L 8 = true := by simpa [markC, Ne.symm h8] using h1
    obtain ⟨h2, h3⟩ := h.2.2.2 this
    exact ⟨by simp [markC, h2], by simp [markC, h3]⟩
theorem JPut.last {v : Value} (h : JPut s0 rs fs L vs w) (h8 : L 8 = true) (h1 : L 1 = true) (hv : v = vs 8) (hf : VF.at fs 10 v w) :
    JPut s0 rs fs (markC L 10) (fun i => if i = 10 then v else vs i) w := by
  refine ⟨h.1.quiet (World.grownBy.refl _ _) (by decide) hf, fun h2 => ?_, fun h2 => ⟨by simp [markC, h8], by simp [hv]⟩, fun h2 => ?_⟩
  · simp [markC, h1] at h2
  · obtain ⟨h3, h4⟩ := h.2.2.2 h8
    exact ⟨by simp [markC, h3], by simp [markC, h4]⟩
theorem JPut.write {v : Value} (h : JPut s0 rs fs L vs w) (hw : All w' rs) (hL : L 8 = false) (h1 : L 1 = true) (h6 : L 6 = true) (h7 : L 7 = true)
    (hs : ∀ j u, [1, 6, 7].contains j = false → j ≠ 8 → j ≠ 10 → VF.at fs j u w → VF.at fs j u w') (h10 : ∀ u, VF.at fs 10 u w') (hv : VF.at fs 8 v w') :
    JPut s0 rs fs (markC L 8) (fun i => if i = 8 then v else vs i) w' := by
  refine ⟨h.1.write hw hL (fun j u hb hne hf => ?_) hv, fun h2 => ?_, fun h2 => ?_, fun h2 => ⟨by simp [markC, h6], by simp [markC, h7]⟩⟩
  · by_cases hj : j = 10
    · subst hj; exact h10 u
    · exact hs j u hb hne hj hf
  · simp [markC, h1] at h2
  · have : L 10 = true := by simpa [markC] using h2
    have := (h.2.2.1 this).1
    rw [hL] at this; cases this
end
theorem ins_len {l : List Bl} {x : Bl} {n i : Nat} (hl : l.length = n) (hi : i ≤ n) : (l.take i ++ x :: l.drop i).length = n + 1 := by
  rw [List.length_append, List.length_cons, List.length_take, List.length_drop, hl]; omega
theorem ins_flat {l : List Bl} {x : Bl} {n i : Nat} (hl : l.length = n) (hi : i ≤ n) (h32 : ∀ y ∈ l, y.d.length = 32) (hx : x.d.length = 32) : ((l.take i ++ x :: l.drop i).map blC).flatten.length = (n + 1) * 33 := by
  rw [blC_flat _ (fun y hy => ?_), ins_len hl hi]
  rcases List.mem_append.1 hy with h | h
  · exact h32 y (List.mem_of_mem_take h)
  · rcases List.mem_cons.1 h with h | h
    · rw [h]; exact hx
    · exact h32 y (List.mem_of_mem_drop h)
theorem dat_ins {w : World} {g i : Nat} {l : List Bl} {x : Bl} (h : (Res.dat g l).ok w) (hx : BlOk w w.heap.size x) (ha : ∀ ad, x.A = some ad → g < ad.block ∧ ad.block < w.heap.size) : (Res.dat g (l.take i ++ x :: l.drop i)).ok w :=
  dat_perm (dat_snoc h hx ha) fun y hy => by
    rcases List.mem_append.1 hy with h | h
    · exact List.mem_append_left _ (List.mem_of_mem_take h)
    · rcases List.mem_cons.1 h with h | h
      · rw [h]; simp
      · exact List.mem_append_left _ (List.mem_of_mem_drop h)
end Go.Adm
namespace Go.Proofs.YtkcmaembpfakdaaGreatDoor
open Go Go.RowKit Go.Adm

set_option maxHeartbeats 3200000 in
theorem Put_any (w : World) (B : Nat) (A Ad : Option Addr) (n c nd cd : Nat) (l : List Bl) (d b : List UInt8) (hl : Blobs w B A n l) (hb : Rd w B 1 Ad nd (b.map bv)) (hd : shaS b = d) (hn2 : n ≤ 1000000) (hnd : nd ≤ 140737488355000) (hncd : nd ≤ cd) (hcd : cd ≤ maxLen) (hB : B ≤ w.heap.size) (hbig : ∀ x ∈ l, x.n ≤ 140737488355000) :
    Calls Tryz.prog 33 #[.slice A n c, .slice Ad nd cd] w (PutPost l d b w) := by
  have hR : All w [.low (.blobs B A n l), .low (.rd B 1 Ad nd (b.map bv)), .kept w w.heap.size] := ⟨⟨hl, hB⟩, ⟨hb, hB⟩, ⟨Below.refl _ _, Nat.le_refl _⟩, trivial⟩
  have HN := Lib.hid hl.len
  have HBL : Hid (b.length = nd) := Lib.hid (by have := hb.len; simpa using this)
  have HBIG := Lib.hid hbig
  have HD : Hid (d.length = 32) := Lib.hid (by rw [← hd]; exact shaS_len b)
  have HSD := Lib.hid hd
  have hzr := zero_bl
  clear hl hb hbig hd
  go_enter Tryz.func33, Tryz.ntmps33
  go_upto_region 1 with (fail)
  refine wp_gen (hR.new (l := z32.map bv) _ 32 rfl rfl) ?_
  intro W1 hW1
  have hs1 : w.heap.size < W1.heap.size := Cells.lt (hW1.at_ 0 rfl)
  clear hR
  have hva := Valid_any W1 B A n c l (hW1.at_ 1 rfl : Blobs W1 B A n l ∧ _).1 hn2 (hW1.at_ 1 rfl : _ ∧ B ≤ W1.heap.size).2 HBIG.out
  go_wp2_with fail
  refine hva.mono ?_
  clear hva
  rintro e w2 ⟨rfl, hb2⟩
  have hW2 := hW1.call hb2
  have hs2 : w.heap.size < w2.heap.size := Cells.lt (hW2.at_ 0 rfl)
  clear hb2 hW1 hs1
  cases hv : validB l with
  | false =>
    have HF := Lib.hid (put3_bad (d := d) (b := b) hv)
    clear hv
    go_wp2_with (refine wl_store_at hW2 0 rfl 32 (.tmp 5) (.tmp 13) rfl w.heap.size _ _ (z32.map bv) rfl rfl rfl rfl (by kernel_rfl) (bv_one _) (by simp [Apart, Res.apart, Low.blobs, Low.rd] <;> omega) ?_; intro W9 hW9 hs9)
    refine bodyPost_ret (v := .tuple #[.slice none 0 0, .agg (z32.map bv).toArray, .int .i64 1]) ?_ rfl ⟨none, 0, 0, [], by rw [HF.out], Blobs.nil, Nat.le_refl _, by decide, by rw [HF.out]; rfl, (hW9.at_ 3 rfl : _ ∧ _).1⟩
    exact results_tmp_row_tmp (o := 4) (p := 5) (q := 6) rfl _ _ w.heap.size 32 (z32.map bv).toArray (0, 0) _ rfl (hW9.at_ 0 rfl) Tryz.underlying32 rfl (by kernel_rfl)
  | true =>
  by_cases hlong : 262144 < nd
  · have HF := Lib.hid (put3_long (d := d) (b := b) hv (by rw [HBL.out]; exact hlong))
    have d1 : decide (262144 < (nd : Int)) = true := by simp; omega
    have d2 : decide (262144 < nd) = true := by simp; omega
    clear hv hlong
    go_wp2_with (refine wl_store_at hW2 0 rfl 32 (.tmp 5) (.tmp 17) rfl w.heap.size _ _ (z32.map bv) rfl rfl rfl rfl (by kernel_rfl) (bv_one _) (by simp [Apart, Res.apart, Low.blobs, Low.rd] <;> omega) ?_; intro W9 hW9 hs9)
    refine bodyPost_ret (v := .tuple #[.slice none 0 0, .agg (z32.map bv).toArray, .int .i64 3]) ?_ rfl ⟨none, 0, 0, [], by rw [HF.out], Blobs.nil, Nat.le_refl _, by decide, by rw [HF.out]; rfl, (hW9.at_ 3 rfl : _ ∧ _).1⟩
    exact results_tmp_row_tmp (o := 4) (p := 5) (q := 6) rfl _ _ w.heap.size 32 (z32.map bv).toArray (0, 0) _ rfl (hW9.at_ 0 rfl) Tryz.underlying32 rfl (by kernel_rfl)
  have d1 : decide (262144 < (nd : Int)) = false := by simp; omega
  have d2 : decide (262144 < nd) = false := by simp; omega
  have hsu := ShaSum_any w2 B Ad nd cd b (hW2.at_ 2 rfl : Rd w2 B 1 Ad nd (b.map bv) ∧ _).1 (hW2.at_ 2 rfl : _ ∧ B ≤ w2.heap.size).2 (by omega) hncd hcd
  rw [HSD.out] at hsu
  have HV := Lib.hid hv
  have HSH : Hid (b.length ≤ 262144) := Lib.hid (by rw [HBL.out]; omega)
  clear hv hlong
  go_wp2_with fail
  refine hsu.mono ?_
  clear hsu
  rintro e w3 ⟨rfl, hb3⟩
  have hW3 := hW2.call hb3
  clear hb3 hW2 hs2
  obtain ⟨g7, hg7⟩ : ∃ g7, g7 = w3.heap.size := ⟨_, rfl⟩
  have hg7w : w.heap.size < g7 := by have : w.heap.size < w3.heap.size := Cells.lt (hW3.at_ 0 rfl); omega
  go_upto_region 6 with (refine wl_store_at (hW3.new (l := z32.map bv) _ 32 hg7 rfl) 0 rfl 32 (.tmp 7) (.tmp 19) rfl g7 _ _ (d.map bv) rfl (by rw [hg7]; rfl) rfl (by rw [List.length_map, HD.out]; rfl) (by rw [List.length_map, HD.out]; kernel_rfl) (bv_one _) (by simp [Apart, Res.apart, Low.blobs, Low.rd] <;> omega) ?_; intro W3 hW3' hs3; simp only [List.set_cons_zero] at hW3')
  simp only [← hg7]
  clear hs3 hW3 hg7
  have hfi := find_any W3 B A n c l d (hW3'.at_ 2 rfl : Blobs W3 B A n l ∧ _).1 (validB_sorted HV.out) HD.out hn2 (hW3'.at_ 2 rfl : _ ∧ B ≤ W3.heap.size).2
  go_wp2_with (refine wl_load_any rfl 32 (.tmp 7) rfl ⟨g7, 0, none⟩ rfl (d.map bv) _ (Cells.sub (hW3'.at_ 0 rfl) 0 (fun j u h => by rwa [Nat.zero_add])) Tryz.underlying32 rfl (by rw [List.length_map, HD.out]; kernel_rfl) ?_)
  refine hfi.mono ?_
  clear hfi
  rintro e w4 ⟨rfl, hb4⟩
  have hW4 := hW3'.call hb4
  clear hb4 hW3'
  cases hlk : (lookB l d).isSome with
  | true =>
    have HF := Lib.hid (put3_had HV.out HSH.out hlk)
    clear hlk
    go_upto_region 8 with (fail)
    refine wp_region_hops 4 [27, 28, 29, 4] [.cells g7 32 (d.map bv), .cells w.heap.size 32 (z32.map bv), .low (.blobs B A n l), .low (.rd B 1 Ad nd (b.map bv)), .kept w w.heap.size]
      [.eq (.slice A n c), .stoA 51 w.heap.size (l.map pr) n (n + 1), .eq (.agg (d.map bv).toArray), .stoA 51 w.heap.size (l.map pr) n (n + 1)]
      (by kernel_rfl) (by kernel_rfl) hW4 rfl ?hops ?fin
    case hops =>
      refine ⟨?_, ?_, ?_, ?_, trivial⟩
      · intro a W hW hb hd K hK
        have b0 := hb 0 rfl
        go_simp
        exact hK _ _ (World.grownBy.refl _ _) rfl
      · intro a W hW hb hd K hK
        have b27 : a.tmps[27]?.getD undef = _ := hd ⟨0, .data⟩ (by simp) rfl
        go_simp
        refine (copies_any W B A n c l (hW.at_ 2 rfl : Blobs W B A n l ∧ _).1 hn2 (hW.at_ 2 rfl : _ ∧ B ≤ W.heap.size).2 HBIG.out).mono ?_
        rintro e w' ⟨l', cs, rfl, h1, h2, h3, h4⟩
        exact hK _ _ (grown_of_below (h4.at_ 2 rfl : Below W.heap.size W w' ∧ _).1) ⟨W.heap.size, hW.size_kept 4 rfl, l', cs, rfl, h1, by rw [← HN.out, ← List.length_map (f := pr), h1, List.length_map], h2, h3, h4.at_ 0 rfl, h4.at_ 1 rfl⟩
      · intro a W hW hb hd K hK
        have b7 := hb 7 rfl
        refine wp_load_any 32 (.tmp 7) rfl ⟨g7, 0, none⟩ (show a.eval (.tmp 7) = _ from by simp only [Act.eval, Array.getD_eq_getD_getElem?]; exact b7) (d.map bv) _ (Cells.sub (hW.at_ 0 rfl) 0 (fun j u h => by rwa [Nat.zero_add])) Tryz.underlying32 rfl (by rw [List.length_map, HD.out]; kernel_rfl) ?_
        exact hK _ _ (World.grownBy.refl _ _) rfl
      · intro a W hW hb hd K hK
        obtain ⟨g, hg0, hS⟩ : ∃ g, w.heap.size ≤ g ∧ StoG 51 g (l.map pr) n (n + 1) W (a.tmps[28]?.getD undef) := hd ⟨1, .data⟩ (by simp) rfl
        have b28 : a.tmps[28]?.getD undef = a.tmps[28]?.getD undef := rfl
        go_simp
        exact hK _ _ (World.grownBy.refl _ _) ⟨g, hg0, hS⟩
    case fin =>
      intro vs W hW hv
      have e2 : vs 2 = _ := hv 2 (by decide)
      obtain ⟨g, hg0, l', cs, e3, hpr, hlm, hcs, hcl, hC, hDt⟩ : ∃ g, w.heap.size ≤ g ∧ StoG 51 g (l.map pr) n (n + 1) W (vs 3) := hv 3 (by decide)
      clear hv
      simp only [putAll, List.drop_succ_cons, List.drop_zero, e2, e3, Act.put, List.setIfInBounds_toArray, List.set_cons_succ, List.set_cons_zero]
      clear e2 e3
      have hg5 : w.heap.size ≠ g := fun e => by have := hg7w; have h6 := Cells.lt (hW.at_ 0 rfl : Cells W g7 _ _); subst e; exact absurd ((hC : W.heap[_]? = _).symm.trans (hW.at_ 1 rfl : Cells W w.heap.size _ _)) (by
        intro h
        injection h with h
        injection h with h1 h2
        have := congrArg Array.size h1
        simp [hcl, z32] at this
        omega)
      have hX : All W (.cells g 51 cs :: .dat g l' :: [.cells g7 32 (d.map bv), .cells w.heap.size 32 (z32.map bv), .low (.blobs B A n l), .low (.rd B 1 Ad nd (b.map bv)), .kept w w.heap.size]) := ⟨hC, hDt, hW⟩
      clear hW hC
      go_wp2_with (refine wl_store_at hX 3 rfl 32 (.tmp 5) (.tmp 29) rfl w.heap.size _ _ (d.map bv) rfl rfl rfl (by rw [List.length_map, HD.out]; rfl) (by rw [List.length_map, HD.out]; kernel_rfl) (bv_one _) ⟨fun e => by { injection e with e; exact hg5 e.symm }, dat_low (by omega), by simp [Res.apart]; omega, by simp [Res.apart, Low.blobs]; omega, by simp [Res.apart, Low.rd]; omega, by simp [Res.apart], trivial⟩ ?_; intro W9 hW9 hs9)
      refine bodyPost_ret (v := .tuple #[.slice (some ⟨g, 0, none⟩) n (n + 1), .agg (d.map bv).toArray, .int .i64 0]) ?_ rfl ⟨some ⟨g, 0, none⟩, n, n + 1, l', by rw [HF.out], Blobs.of (hW9.at_ 0 rfl) (hW9.at_ 1 rfl) hlm hcs, Nat.le_succ _, by simp only [maxLen]; omega, by rw [HF.out]; exact hpr, (hW9.at_ 6 rfl : _ ∧ _).1⟩
      exact results_tmp_row_tmp (o := 4) (p := 5) (q := 6) rfl _ _ w.heap.size 32 (d.map bv).toArray (0, 0) _ rfl (hW9.at_ 3 rfl) Tryz.underlying32 rfl (by rw [List.size_toArray, List.length_map, HD.out]; kernel_rfl)
  | false =>
  have hBw : B ≤ w.heap.size := hB
  by_cases hfull : n = 256
  · have HF := Lib.hid (put3_full HV.out HSH.out hlk (by rw [HN.out]; exact hfull))
    have d3 : ((n : Int) == 256) = true := by simp; omega
    have d4 : (n == 256) = true := by simp; omega
    clear hfull
    have hs4 : w.heap.size < w4.heap.size := Cells.lt (hW4.at_ 1 rfl)
    go_wp2_with (refine wl_store_at hW4 1 rfl 32 (.tmp 5) (.tmp 33) rfl w.heap.size _ _ (z32.map bv) rfl rfl rfl rfl (by kernel_rfl) (bv_one _) (by simp [Apart, Res.apart, Low.blobs, Low.rd] <;> omega) ?_; intro W9 hW9 hs9)
    refine bodyPost_ret (v := .tuple #[.slice none 0 0, .agg (z32.map bv).toArray, .int .i64 3]) ?_ rfl ⟨none, 0, 0, [], by rw [HF.out], Blobs.nil, Nat.le_refl _, by decide, by rw [HF.out]; rfl, (hW9.at_ 4 rfl : _ ∧ _).1⟩
    exact results_tmp_row_tmp (o := 4) (p := 5) (q := 6) rfl _ _ w.heap.size 32 (z32.map bv).toArray (0, 0) _ rfl (hW9.at_ 1 rfl) Tryz.underlying32 rfl (by kernel_rfl)
  have HF := Lib.hid (put3_new HV.out HSH.out hlk (by rw [HN.out]; exact hfull))
  have d3 : ((n : Int) == 256) = false := by simp; omega
  have d4 : (n == 256) = false := by simp; omega
  clear hfull hlk
  obtain ⟨s0, hs0⟩ : ∃ s0, s0 = w4.heap.size := ⟨_, rfl⟩
  have hg7s : g7 < s0 := by rw [hs0]; exact Cells.lt (hW4.at_ 0 rfl)
  have HS0 : Hid (s0 = w4.drew.heap.size) := Lib.hid hs0
  clear hs0
  go_upto_region 11 with (fail)
  refine wp_region_cut 11 [34, 35, 36, 37, 38, 39, 40, 41, 42, 43, 4] (JPut s0 [.cells g7 32 (d.map bv), .cells w.heap.size 32 (z32.map bv), .low (.blobs B A n l), .low (.rd B 1 Ad nd (b.map bv)), .kept w w.heap.size] [.eq (.slice A n c), .stoG 51 s0 (l.map pr) n (n + 1), .eq (.int .i64 (placeB l d : Nat)), .eq (.agg (d.map bv).toArray), .eq (.slice Ad nd cd), .eq (.agg (blC ⟨d, Ad, nd, cd, b⟩).toArray), .dup 5 s0 nd d b, .lit 51 5 s0 nd d b, .stoG 51 s0 ((l.map pr).take (placeB l d) ++ (d, b) :: (l.map pr).drop (placeB l d)) (n + 1) (n + 1), .eq (.agg (d.map bv).toArray), .gen (fun _ _ => True) (fun _ _ _ _ h => h)])
    (by kernel_rfl) (by kernel_rfl) ⟨JW.start hW4.drew, fun _ => HS0.out.symm, (fun h => by cases h), (fun h => by cases h)⟩ rfl ?hops ?fin
  case hops =>
    refine ⟨?_, ?_, ?_, ?_, ?_, ?_, ?_, ?_, ?_, ?_, ?_, trivial⟩
    · refine ⟨rfl, ?_⟩
      intro a W L vs hJ hk hb0 hd K hK
      have b0 := hb0 0 rfl
      go_simp
      exact hK _ _ (hJ.quiet (World.grownBy.refl _ _) (by decide) (by decide) (fun _ _ => rfl) rfl)
    · refine ⟨rfl, ?_⟩
      intro a W L vs hJ hk hb0 hd K hK
      obtain ⟨h0, b34⟩ := hd ⟨0, .data⟩ (by simp) rfl
      replace b34 : a.tmps[34]?.getD undef = vs 0 := b34
      rw [show vs 0 = _ from hJ.1.get h0 (fun _ => by decide)] at b34
      go_simp
      have hW := hJ.1.1
      have hsz := hJ.2.1 hk
      refine (copies_any W B A n c l (hW.at_ 2 rfl : Blobs W B A n l ∧ _).1 hn2 (hW.at_ 2 rfl : _ ∧ B ≤ W.heap.size).2 HBIG.out).mono ?_
      rintro e w' ⟨l', cs, rfl, h1, h2, h3, h4⟩
      refine hK _ _ (hJ.quiet (grown_of_below (h4.at_ 2 rfl : Below W.heap.size W w' ∧ _).1) (by decide) (by decide) (fun h _ => absurd rfl h) ?_)
      rw [hsz] at h4 ⊢
      exact ⟨l', cs, rfl, h1, by rw [← HN.out, ← List.length_map (f := pr), h1, List.length_map], h2, h3, h4.at_ 0 rfl, h4.at_ 1 rfl⟩
    · refine ⟨rfl, ?_⟩
      intro a W L vs hJ hk hb0 hd K hK
      have b8 := hb0 8 rfl
      go_simp
      exact hK _ _ (hJ.quiet (World.grownBy.refl _ _) (by decide) (by decide) (fun _ _ => rfl) rfl)
    · refine ⟨rfl, ?_⟩
      intro a W L vs hJ hk hb0 hd K hK
      have b7 := hb0 7 rfl
      have hW := hJ.1.1
      refine wp_load_any 32 (.tmp 7) rfl ⟨g7, 0, none⟩ (show a.eval (.tmp 7) = _ from by simp only [Act.eval, Array.getD_eq_getD_getElem?]; exact b7) (d.map bv) _ (Cells.sub (hW.at_ 0 rfl) 0 (fun j u h => by rwa [Nat.zero_add])) Tryz.underlying32 rfl (by rw [List.length_map, HD.out]; kernel_rfl) ?_
      exact hK _ _ (hJ.quiet (World.grownBy.refl _ _) (by decide) (by decide) (fun _ _ => rfl) rfl)
    · refine ⟨rfl, ?_⟩
      intro a W L vs hJ hk hb0 hd K hK
      have b1 := hb0 1 rfl
      go_simp
      exact hK _ _ (hJ.quiet (World.grownBy.refl _ _) (by decide) (by decide) (fun _ _ => rfl) rfl)
    · refine ⟨rfl, ?_⟩
      intro a W L vs hJ hk hb0 hd K hK
      obtain ⟨h3, b37⟩ := hd ⟨3, .data⟩ (by simp) rfl
      replace b37 : a.tmps[37]?.getD undef = vs 3 := b37
      rw [show vs 3 = _ from hJ.1.get h3 (fun _ => by decide)] at b37
      obtain ⟨h4, b38⟩ := hd ⟨4, .data⟩ (by simp) rfl
      replace b38 : a.tmps[38]?.getD undef = vs 4 := b38
      rw [show vs 4 = _ from hJ.1.get h4 (fun _ => by decide)] at b38
      refine wp_bld 51 [(0, .tmp 37), (1, .tmp 38)] rfl _ _ #[(0, 32), (32, 1)] (blC ⟨d, Ad, nd, cd, b⟩).toArray zero_bl Tryz.underlying51 (fun w => by kernel_rfl) (by
        have h1 : a.eval (.tmp 37) = .agg (d.map bv).toArray := by simp only [Act.eval, Array.getD_eq_getD_getElem?]; exact b37
        have h2 : a.eval (.tmp 38) = .slice Ad nd cd := by simp only [Act.eval, Array.getD_eq_getD_getElem?]; exact b38
        simp only [List.map_cons, List.map_nil, h1, h2]
        exact fill_bl d Ad nd cd b HD.out) ?_
      exact hK _ _ (hJ.quiet (World.grownBy.refl _ _) (by decide) (by decide) (fun _ _ => rfl) rfl)
    · refine ⟨rfl, ?_⟩
      intro a W L vs hJ hk hb0 hd K hK
      obtain ⟨h5, b39⟩ := hd ⟨5, .data⟩ (by simp) rfl
      replace b39 : a.tmps[39]?.getD undef = vs 5 := b39
      rw [show vs 5 = _ from hJ.1.get h5 (fun _ => by decide)] at b39
      obtain ⟨h1, -⟩ := hd ⟨1, .chain⟩ (by simp) rfl
      obtain ⟨l1, cs1, -, -, -, -, -, hC1, -⟩ : StoG 51 s0 (l.map pr) n (n + 1) W (vs 1) := hJ.1.get h1 (fun h8 => by have := (hJ.2.2.2 h8).1; rw [hk] at this; cases this)
      go_simp
      refine (duplicate_any W B ⟨d, Ad, nd, cd, b⟩ ⟨HD.out, (hJ.1.1.at_ 3 rfl : Rd W B 1 Ad nd (b.map bv) ∧ _).1, hncd, hcd⟩ (by show nd ≤ _; omega) (hJ.1.1.at_ 3 rfl : _ ∧ B ≤ W.heap.size).2).mono ?_
      rintro e w' ⟨gd, hgd1, hgd2, rfl, hcd', hb3⟩
      exact hK _ _ (hJ.quiet (grown_of_below hb3) (by decide) (by decide) (fun _ h => by rw [h1] at h; cases h) ⟨gd, Nat.lt_of_lt_of_le (Cells.lt hC1) hgd1, rfl, hcd'⟩)
    · refine ⟨rfl, ?_⟩
      intro a W L vs hJ hk hb0 hd K hK
      obtain ⟨h6, b40⟩ := hd ⟨6, .data⟩ (by simp) rfl
      replace b40 : a.tmps[40]?.getD undef = vs 6 := b40
      obtain ⟨gd, hgd, e6, hC6⟩ : ∃ gd, s0 < gd ∧ vs 6 = .agg (blC ⟨d, some ⟨gd, 0, none⟩, nd, nd, b⟩).toArray ∧ Cells W gd 5 (b.map bv) := hJ.1.get h6 (fun h8 => by have := (hJ.2.2.2 h8).2; rw [hk] at this; cases this)
      rw [e6] at b40
      refine wp_lit1 el_bl (.tmp 40) rfl (blC ⟨d, some ⟨gd, 0, none⟩, nd, nd, b⟩) (show a.eval (.tmp 40) = _ from by simp only [Act.eval, Array.getD_eq_getD_getElem?]; exact b40) (blC_len (x := ⟨d, some ⟨gd, 0, none⟩, nd, nd, b⟩) HD.out) (by decide) ?_
      exact hK _ _ (hJ.quiet (grown_alloc _ _) (by decide) (by decide) (fun _ h1 => by have h2 := hJ.2.1 h1; have h3 := Cells.lt hC6; omega) ⟨W.heap.size, gd, Nat.lt_trans hgd (Cells.lt hC6), hgd, rfl, Cells.new' _ _ _ rfl rfl, hC6.alloc _⟩)
    · refine ⟨rfl, ?_⟩
      intro a W L vs hJ hk hb0 hd K hK
      obtain ⟨h1, b35⟩ := hd ⟨1, .data⟩ (by simp) rfl
      replace b35 : a.tmps[35]?.getD undef = vs 1 := b35
      obtain ⟨h2, b36⟩ := hd ⟨2, .data⟩ (by simp) rfl
      replace b36 : a.tmps[36]?.getD undef = vs 2 := b36
      rw [show vs 2 = _ from hJ.1.get h2 (fun _ => by decide)] at b36
      obtain ⟨h7, b41⟩ := hd ⟨7, .data⟩ (by simp) rfl
      replace b41 : a.tmps[41]?.getD undef = vs 7 := b41
      obtain ⟨h6, -⟩ := hd ⟨6, .chain⟩ (by simp) rfl
      obtain ⟨l', cs, e1, hpr, hlm, hcs, hcl, hC, hDt⟩ : StoG 51 s0 (l.map pr) n (n + 1) W (vs 1) := hJ.1.get h1 (fun h8 => by rw [hk] at h8; cases h8)
      obtain ⟨g2, gd, hg2, hgd, e7, hC2, hCd⟩ : ∃ g2 gd, s0 < g2 ∧ s0 < gd ∧ vs 7 = .slice (some ⟨g2, 0, none⟩) 1 1 ∧ Cells W g2 51 (blC ⟨d, some ⟨gd, 0, none⟩, nd, nd, b⟩) ∧ Cells W gd 5 (b.map bv) := hJ.1.get h7 (fun h8 => by rw [hk] at h8; cases h8)
      rw [e1] at b35
      rw [e7] at b41
      have h32 : ∀ y ∈ l', y.d.length = 32 := fun y hy => (dat_get hDt y hy).d32
      go_simp
      refine (Insert_any W (.cells gd 5 (b.map bv) :: .dat s0 l' :: [.cells g7 32 (d.map bv), .cells w.heap.size 32 (z32.map bv), .low (.blobs B A n l), .low (.rd B 1 Ad nd (b.map bv)), .kept w w.heap.size]) s0 g2 n (placeB l d) cs l' ⟨d, some ⟨gd, 0, none⟩, nd, nd, b⟩ ⟨hC, hC2, hCd, hDt, hJ.1.1⟩
        ⟨by simp [Res.apart]; omega, dat_apart, by simp [Res.apart]; omega, by simp [Res.apart]; omega, by simp [Res.apart, Low.blobs]; omega, by simp [Res.apart, Low.rd]; omega, by simp [Res.apart]; omega, trivial⟩ (by omega) hcl hcs hlm h32 HD.out (by rw [← HN.out]; exact placeB_le l d) hn2).mono ?_
      rintro e w' ⟨rfl, hW'⟩
      refine hK _ _ (hJ.write hW'.2.2.2.2 hk h1 h6 h7 ?_ (fun _ => trivial) ?_)
      · intro j u hb hne hne2 hf
        match j, hb, hne, hne2, hf with
        | 0, _, _, _, hf => exact hf
        | 1, hb, _, _, _ => exact absurd hb (by decide)
        | 2, _, _, _, hf => exact hf
        | 3, _, _, _, hf => exact hf
        | 4, _, _, _, hf => exact hf
        | 5, _, _, _, hf => exact hf
        | 6, hb, _, _, _ => exact absurd hb (by decide)
        | 7, hb, _, _, _ => exact absurd hb (by decide)
        | 8, _, hne, _, _ => exact absurd rfl hne
        | 9, _, _, _, hf => exact hf
        | 10, _, _, hne2, _ => exact absurd rfl hne2
        | _ + 11, _, _, _, hf => exact hf
      · refine ⟨l'.take (placeB l d) ++ ⟨d, some ⟨gd, 0, none⟩, nd, nd, b⟩ :: l'.drop (placeB l d), _, rfl, ?_, ?_, ?_, ?_, hW'.1, dat_ins hW'.2.2.2.1 ⟨HD.out, cells_rd0 hW'.2.2.1 (by rw [List.length_map]; exact HBL.out), Nat.le_refl _, by show nd ≤ maxLen; omega⟩ (fun ad e => by injection e with e; subst e; exact ⟨hgd, Cells.lt hW'.2.2.1⟩)⟩
        · rw [List.map_append, List.map_cons, List.map_take, List.map_drop, hpr]; rfl
        · exact ins_len hlm (by rw [← HN.out]; exact placeB_le l d)
        · rw [List.take_of_length_le]
          rw [ins_flat (x := ⟨d, some ⟨gd, 0, none⟩, nd, nd, b⟩) hlm (by rw [← HN.out]; exact placeB_le l d) h32 HD.out]; exact Nat.le_refl _
        · exact ins_flat (x := ⟨d, some ⟨gd, 0, none⟩, nd, nd, b⟩) hlm (by rw [← HN.out]; exact placeB_le l d) h32 HD.out
    · refine ⟨rfl, ?_⟩
      intro a W L vs hJ hk hb0 hd K hK
      have b7 := hb0 7 rfl
      have hW := hJ.1.1
      refine wp_load_any 32 (.tmp 7) rfl ⟨g7, 0, none⟩ (show a.eval (.tmp 7) = _ from by simp only [Act.eval, Array.getD_eq_getD_getElem?]; exact b7) (d.map bv) _ (Cells.sub (hW.at_ 0 rfl) 0 (fun j u h => by rwa [Nat.zero_add])) Tryz.underlying32 rfl (by rw [List.length_map, HD.out]; kernel_rfl) ?_
      exact hK _ _ (hJ.quiet (World.grownBy.refl _ _) (by decide) (by decide) (fun _ _ => rfl) rfl)
    · refine ⟨rfl, ?_⟩
      intro a W L vs hJ hk hb0 hd K hK
      obtain ⟨h8, b42⟩ := hd ⟨8, .data⟩ (by simp) rfl
      replace b42 : a.tmps[42]?.getD undef = vs 8 := b42
      obtain ⟨h1, -⟩ := hd ⟨1, .phase⟩ (by simp) rfl
      go_simp
      exact hK _ _ (hJ.last h8 h1 rfl trivial)
  case fin =>
    intro vs W L hJ hall
    have e9 : vs 9 = _ := hJ.1.get (hall 9 (by decide)) (fun _ => by decide)
    have e10 := (hJ.2.2.1 (hall 10 (by decide))).2
    obtain ⟨l', cs, e8, hpr, hlm, hcs, hcl, hC, hDt⟩ : StoG 51 s0 ((l.map pr).take (placeB l d) ++ (d, b) :: (l.map pr).drop (placeB l d)) (n + 1) (n + 1) W (vs 8) := hJ.1.get (hall 8 (by decide)) (fun _ => by decide)
    have hW := hJ.1.1
    rw [e8] at e10
    clear hJ hall e8
    simp only [putAll, List.drop_succ_cons, List.drop_zero, e9, e10, Act.put, List.setIfInBounds_toArray, List.set_cons_succ, List.set_cons_zero]
    clear e9 e10
    have hX : All W (.cells s0 51 cs :: .dat s0 l' :: [.cells g7 32 (d.map bv), .cells w.heap.size 32 (z32.map bv), .low (.blobs B A n l), .low (.rd B 1 Ad nd (b.map bv)), .kept w w.heap.size]) := ⟨hC, hDt, hW⟩
    clear hW hC hDt
    go_wp2_with (refine wl_store_at hX 3 rfl 32 (.tmp 5) (.tmp 43) rfl w.heap.size _ _ (d.map bv) rfl rfl rfl (by rw [List.length_map, HD.out]; rfl) (by rw [List.length_map, HD.out]; kernel_rfl) (bv_one _) ⟨by simp [Res.apart]; omega, dat_low (by omega), by simp [Res.apart]; omega, by simp [Res.apart, Low.blobs]; omega, by simp [Res.apart, Low.rd]; omega, by simp [Res.apart], trivial⟩ ?_; intro W9 hW9 hs9)
    refine bodyPost_ret (v := .tuple #[.slice (some ⟨s0, 0, none⟩) (n + 1) (n + 1), .agg (d.map bv).toArray, .int .i64 0]) ?_ rfl ⟨some ⟨s0, 0, none⟩, n + 1, n + 1, l', by rw [HF.out], Blobs.of (hW9.at_ 0 rfl) (hW9.at_ 1 rfl) hlm hcs, Nat.le_refl _, by simp only [maxLen]; omega, by rw [HF.out]; exact hpr, (hW9.at_ 6 rfl : _ ∧ _).1⟩
    exact results_tmp_row_tmp (o := 4) (p := 5) (q := 6) rfl _ _ w.heap.size 32 (d.map bv).toArray (0, 0) _ rfl (hW9.at_ 3 rfl) Tryz.underlying32 rfl (by rw [List.size_toArray, List.length_map, HD.out]; kernel_rfl)
end Go.Proofs.YtkcmaembpfakdaaGreatDoor

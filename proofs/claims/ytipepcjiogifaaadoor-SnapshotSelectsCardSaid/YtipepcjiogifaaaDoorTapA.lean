/- Choices from a tape: Next, Pick, Sum. A path chosen from a tape. An entry dropped from a list. An entry put into a list: the walk. Lists of entries in order: putting and dropping keep them so. A list of entries made from a tape. A list of entries edited from a tape. A link made from a tape; rows of the call's own beside blocks of other types. -/
import Derived.Test.YtipepcjiogifaaaDoorSnapMem
import Derived.Test.YtipepcjiogifaaaDoorSnap2
import Derived.Test.YtipepcjiogifaaaDoorSnap3
import Derived.Test.YtipepcjiogifaaaDoorFreA
set_option linter.unusedSimpArgs false
set_option linter.unusedVariables false
namespace Go.Adm
open Go Go.RowKit
def iv (x : Int) : Value := .int .i64 x
theorem rem_ok (v : Int) (n : Nat) (hn : 1 ≤ n) : -(n : Int) < v.tmod n ∧ v.tmod n < n := ⟨Int.lt_tmod_of_pos v (by omega), Int.tmod_lt_of_pos v (by omega)⟩
theorem grown_dset (w : World) (n : Nat) (p : Addr) (u : Value) : w.grownBy ((w.drewN n).setCell p u) (some p.block) := by
  have h := grown_setCell (w.drewN n) p u
  exact ⟨h.os, h.tape, h.output, h.size, h.block⟩
end Go.Adm
namespace Go.Proofs.YtipepcjiogifaaaDoor
open Go Go.RowKit Go.Adm

set_option maxRecDepth 100000 in
set_option maxHeartbeats 1600000 in
theorem Next_any (w : World) (gt B : Nat) (A : Option Addr) (nl cl at_ n : Nat) (L : List Int) (hc : Cells w gt 27 [.slice A nl cl, .int .i64 at_]) (hL : Rd w B 1 A nl (L.map iv)) (hB : B ≤ gt) (hn : 1 ≤ n) (hn2 : n ≤ 1000) (hat : at_ ≤ 1000000) :
    Calls Tryd.prog 22 #[.pointer (some ⟨gt, 0, none⟩), .int .i64 n] w fun e w' => ∃ k : Nat, k < n ∧ e = .returned (.int .i64 k) ∧ Cells w' gt 27 [.slice A nl cl, .int .i64 ((at_ + 1 : Nat) : Int)] ∧ w.grownBy w' (some gt) := by
  have c0 : w.cell? ⟨gt, 0, none⟩ = some (.slice A nl cl) := Cells.cell hc (i := 0) (by simp)
  have c1 : w.cell? ⟨gt, 1, none⟩ = some (.int .i64 at_) := Cells.cell hc (i := 1) (by simp)
  have f1 : w.frozen? ⟨gt, 1, none⟩ = false := Cells.frozen hc 1
  have hll := hL.len
  rw [List.length_map] at hll
  have e1 : IntKind.i64.wrap ((at_ : Int) * 7) = (at_ : Int) * 7 := IntWalk.i64_in _ (by omega)
  have e2 : IntKind.i64.wrap ((at_ : Int) * 7 + 3) = (at_ : Int) * 7 + 3 := IntWalk.i64_in _ (by omega)
  have e3 : IntKind.i64.wrap ((at_ : Int) + 1) = (at_ : Int) + 1 := IntWalk.i64_in _ (by omega)
  have d0 : decide ((n : Int) < 1) = false := by simp; omega
  have hn0 : ¬ (n : Int) = 0 := by omega
  have hfin : ∀ v : Int, ∃ k : Nat, k < n ∧ (v.tmod n + n).tmod n = (k : Int) ∧ IntKind.i64.wrap (v.tmod n) = v.tmod n ∧ IntKind.i64.wrap (v.tmod n + n) = v.tmod n + n ∧ IntKind.i64.wrap ((v.tmod n + n).tmod n) = (v.tmod n + n).tmod n := fun v => by
    obtain ⟨h1, h2⟩ := rem_ok v n hn
    have h3 : (v.tmod n + n).tmod n = (v.tmod n + n) % n := Int.tmod_eq_emod_of_nonneg (by omega)
    have h4 : 0 ≤ (v.tmod n + n) % n := Int.emod_nonneg _ (by omega)
    have h5 : (v.tmod n + n) % n < n := Int.emod_lt_of_pos _ (by omega)
    refine ⟨((v.tmod n + n) % n).toNat, by omega, by rw [h3]; omega, IntWalk.i64_in _ (by omega), IntWalk.i64_in _ (by omega), ?_⟩
    rw [h3]
    exact IntWalk.i64_in _ (by omega)
  by_cases hlt : at_ < nl
  · have d1 : decide ((at_ : Int) < (nl : Int)) = true := by simp; omega
    obtain ⟨ad, v, rfl, hadB, hv, hcell⟩ := hL.cell (k := at_) hlt
    have hv' : ∃ x : Int, v = .int .i64 x := by
      rw [List.getElem?_map] at hv
      cases hq : L[at_]? with
      | none => rw [hq] at hv; cases hv
      | some x => rw [hq] at hv; injection hv with hv; exact ⟨x, hv.symm⟩
    obtain ⟨x, rfl⟩ := hv'
    obtain ⟨k, hk, g1, g2, g3, g4⟩ := hfin x
    have wk0 : (0 : Int) ≤ (at_ : Int) := by omega
    have wk1 : (at_ : Int) < (nl : Int) := by omega
    have wk2 : ((at_ : Int)).toNat = at_ := by omega
    go_enter Tryd.func22, Tryd.ntmps22
    go_wp2_with fail
    go_quiet (fail)
    go_wp2_with fail
    go_quiet (fail)
    go_wp2_with fail
    go_ret
    refine ⟨k, hk, rfl, ?_, ?_⟩
    · exact Cells.store (hc.drewN _) 1 _
    · exact grown_dset w _ ⟨gt, 1, none⟩ _
  · have d1 : decide ((at_ : Int) < (nl : Int)) = false := by simp; omega
    obtain ⟨y, hy⟩ : ∃ y : Int, y = (at_ : Int) * 7 + 3 := ⟨_, rfl⟩
    have e2' : IntKind.i64.wrap ((at_ : Int) * 7 + 3) = y := e2.trans hy.symm
    clear e2 hy
    obtain ⟨k, hk, g1, g2, g3, g4⟩ := hfin y
    go_enter Tryd.func22, Tryd.ntmps22
    go_wp2_with fail
    go_quiet (fail)
    go_wp2_with fail
    go_ret
    refine ⟨k, hk, rfl, ?_, ?_⟩
    · exact Cells.store (hc.drewN _) 1 _
    · exact grown_dset w _ ⟨gt, 1, none⟩ _
/-- what a choice leaves of the tape -/
def TapeTo (gt : Nat) (A : Option Addr) (nl cl at_ : Nat) (w w' : World) : Prop := Cells w' gt 27 [.slice A nl cl, .int .i64 (at_ : Int)] ∧ w.grownBy w' (some gt)
set_option maxRecDepth 100000 in
set_option maxHeartbeats 1600000 in
theorem Pick_any (w : World) (gt B : Nat) (A : Option Addr) (nl cl at_ : Nat) (L : List Int) (hc : Cells w gt 27 [.slice A nl cl, .int .i64 at_]) (hL : Rd w B 1 A nl (L.map iv)) (hB : B ≤ gt) (hat : at_ ≤ 1000000)
    (ss : List ByteArray) (gs cs : Nat) (t : TypeId) (hs : Cells w gs t (ss.map sv)) (hgs : gs ≠ gt) (hn : 1 ≤ ss.length) (hn2 : ss.length ≤ 1000) (n : Nat) (hnn : n = ss.length) :
    Calls Tryd.prog 21 #[.pointer (some ⟨gt, 0, none⟩), .slice (some ⟨gs, 0, none⟩) n cs] w fun e w' => ∃ s ∈ ss, e = .returned (.string s) ∧ TapeTo gt A nl cl (at_ + 1) w w' := by
  subst hnn
  go_enter Tryd.func21, Tryd.ntmps21
  go_wp2_with fail
  refine (Next_any w gt B A nl cl at_ ss.length L hc hL hB hn hn2 hat).mono ?_
  rintro e w1 ⟨k, hk, rfl, hc1, hg1⟩
  have hs1 : Cells w1 gs t (ss.map sv) := hs.grown hg1 (fun e => hgs (Option.some.inj e))
  have c1 : w1.cell? ⟨gs, k, none⟩ = some (.string ss[k]) := by
    have := Cells.cell hs1 (i := k) (by rw [List.length_map]; exact hk)
    rw [this]; simp [sv]
  have hm := List.getElem_mem hk
  generalize ss[k] = s at *
  have wk0 : (0 : Int) ≤ (k : Int) := by omega
  have wk1 : (k : Int) < (ss.length : Int) := by omega
  have wk2 : ((k : Int)).toNat = k := by omega
  go_wp2_with fail
  go_ret
  exact ⟨s, hm, rfl, hc1, hg1⟩
set_option maxRecDepth 100000 in
set_option maxHeartbeats 1600000 in
theorem Sum_any (w : World) (gt B : Nat) (A : Option Addr) (nl cl at_ : Nat) (L : List Int) (hc : Cells w gt 27 [.slice A nl cl, .int .i64 at_]) (hL : Rd w B 1 A nl (L.map iv)) (hB : B ≤ gt) (hat : at_ ≤ 1000000) :
    Calls Tryd.prog 25 #[.pointer (some ⟨gt, 0, none⟩)] w fun e w' => ∃ d : List UInt8, d.length = 32 ∧ d ≠ z32 ∧ e = .returned (.agg (d.map bv).toArray) ∧ TapeTo gt A nl cl (at_ + 1) w w' := by
  have hlt := Cells.lt hc
  go_enter Tryd.func25, Tryd.ntmps25
  go_wp2_with fail
  refine (Next_any _ gt B A nl cl at_ 6 L (hc.alloc _) (hL.alloc (by omega) _) hB (by omega) (by omega) hat).mono ?_
  rintro e w1 ⟨k, hk, rfl, hc1, hg1⟩
  have hbx : Cells w1 w.heap.size 40 (List.replicate 32 (Value.int .u8 0)) := (Cells.new' w 40 _ rfl rfl).grown hg1 (fun e => by have := Option.some.inj e; omega)
  have hAll : All w1 [.cells w.heap.size 40 (List.replicate 32 (Value.int .u8 0)), .cells gt 27 [.slice A nl cl, .int .i64 ((at_ + 1 : Nat) : Int)]] := ⟨hbx, hc1, trivial⟩
  have hg1' : w.grownBy w1 (some gt) := ⟨hg1.os, hg1.tape, hg1.output, by have := hg1.size; simp at this; omega, fun k hk hn => (hg1.block k (by simp; omega) hn).trans (Below.heap_alloc w _ k hk)⟩
  have hkk : k = 0 ∨ k = 1 ∨ k = 2 ∨ k = 3 ∨ k = 4 ∨ k = 5 := by omega
  obtain ⟨d, hd32, hdz, hdk⟩ : ∃ d : List UInt8, d.length = 32 ∧ d ≠ z32 ∧ d = UInt8.ofNat (k + 1) :: List.replicate 31 0 := by
    refine ⟨_, by simp, ?_, rfl⟩
    rcases hkk with rfl | rfl | rfl | rfl | rfl | rfl <;> decide
  rcases hkk with rfl | rfl | rfl | rfl | rfl | rfl
  all_goals
    go_wp2_with (refine wl_store_all rfl 40 (.tmp 2) (.tmp 7) rfl w.heap.size 40 _ (d.map bv) rfl (by rw [hdk]; rfl) hbx (by rw [List.length_map, hd32]; rfl) (by rw [List.length_map, hd32]; kernel_rfl) (bv_one _) ?_; intro w2 hw2 hg2 hs2)
    have hc2 := hc1.grown hg2 (fun e => by have := Option.some.inj e; omega)
    have hsz1 := hg1'.size
    refine bodyPost_ret (results_cell_row rfl _ _ w.heap.size 40 (d.map bv).toArray (0, 0) _ rfl hw2 Tryd.underlying40 rfl (by rw [List.size_toArray, List.length_map, hd32]; kernel_rfl)) rfl ?_
    exact ⟨d, hd32, hdz, rfl, hc2, ⟨hg2.os.trans hg1'.os, hg2.tape.trans hg1'.tape, hg2.output.trans hg1'.output, Nat.le_trans hsz1 hg2.size, fun k hk hn => (hg2.block k (by omega) (fun e => by have := Option.some.inj e; omega)).trans (hg1'.block k hk hn)⟩⟩
end Go.Proofs.YtipepcjiogifaaaDoor
set_option linter.unusedSimpArgs false
set_option linter.unusedVariables false
namespace Go.Adm
open Go Go.RowKit
def dirsL : List ByteArray := [⟨#[97]⟩, ⟨#[98]⟩, ⟨#[115, 114, 99]⟩, ⟨#[111, 117, 116]⟩, ⟨#[108, 105, 98]⟩]
def filesL : List ByteArray := [⟨#[97]⟩, ⟨#[98]⟩, ⟨#[97, 46, 99]⟩, ⟨#[98, 46, 104]⟩, ⟨#[120]⟩, ⟨#[111, 117, 116]⟩]
def preL : Nat → List ByteArray
  | 0 => [⟨#[]⟩]
  | m + 1 => (preL m).flatMap fun s => dirsL.map fun d => s ++ d ++ ⟨#[47]⟩
def pathsL : List ByteArray := (preL 0 ++ (preL 1 ++ preL 2)).flatMap fun s => filesL.map fun f => s ++ f
theorem paths_ok : (pathsL.all fun p => pathB p && decide (p.size ≤ 200)) = true := by decide +kernel
theorem pre_small : ((preL 0 ++ (preL 1 ++ preL 2)).all fun p => decide (p.size ≤ 100)) = true := by decide +kernel
theorem dirs_small : ((dirsL ++ filesL).all fun p => decide (p.size ≤ 10)) = true := by decide +kernel
theorem paths_of {s f : ByteArray} {m : Nat} (hm : m ≤ 2) (hs : s ∈ preL m) (hf : f ∈ filesL) : pathB (s ++ f) = true ∧ (s ++ f).size ≤ 200 := by
  have h := List.all_eq_true.1 paths_ok (s ++ f) (List.mem_flatMap.2 ⟨s, by
    rcases (by omega : m = 0 ∨ m = 1 ∨ m = 2) with rfl | rfl | rfl
    · exact List.mem_append.2 (.inl hs)
    · exact List.mem_append.2 (.inr (List.mem_append.2 (.inl hs)))
    · exact List.mem_append.2 (.inr (List.mem_append.2 (.inr hs))), List.mem_map.2 ⟨f, hf, rfl⟩⟩)
  simpa using h
theorem pre_size {s : ByteArray} {m : Nat} (hm : m ≤ 2) (hs : s ∈ preL m) : s.size ≤ 100 := by
  have h := List.all_eq_true.1 pre_small s (by
    rcases (by omega : m = 0 ∨ m = 1 ∨ m = 2) with rfl | rfl | rfl
    · exact List.mem_append.2 (.inl hs)
    · exact List.mem_append.2 (.inr (List.mem_append.2 (.inl hs)))
    · exact List.mem_append.2 (.inr (List.mem_append.2 (.inr hs))))
  simpa using h
theorem dir_size {s : ByteArray} (hs : s ∈ dirsL) : s.size ≤ 10 := by
  have h := List.all_eq_true.1 dirs_small s (List.mem_append.2 (.inl hs))
  simpa using h
theorem file_size {s : ByteArray} (hs : s ∈ filesL) : s.size ≤ 10 := by
  have h := List.all_eq_true.1 dirs_small s (List.mem_append.2 (.inr hs))
  simpa using h
end Go.Adm
namespace Go.Proofs.YtipepcjiogifaaaDoor
open Go Go.RowKit Go.Adm

set_option maxRecDepth 100000 in
set_option maxHeartbeats 3200000 in
theorem TPath_any (w : World) (gt B : Nat) (A : Option Addr) (nl cl at_ : Nat) (L : List Int) (hc : Cells w gt 27 [.slice A nl cl, .int .i64 at_]) (hL : Rd w B 1 A nl (L.map iv)) (hB : B ≤ gt) (hat : at_ ≤ 900000) :
    Calls Tryd.prog 24 #[.pointer (some ⟨gt, 0, none⟩)] w fun e w' => ∃ (p : ByteArray) (m : Nat), m ≤ 4 ∧ pathB p = true ∧ p.size ≤ 200 ∧ e = .returned (.string p) ∧ TapeTo gt A nl cl (at_ + m) w w' := by
  have hlt := Cells.lt hc
  go_enter Tryd.func24, Tryd.ntmps24
  go_wp2_with fail
  refine (Next_any w gt B A nl cl at_ 3 L hc hL hB (by omega) (by omega) (by omega)).mono ?_
  rintro e w1 ⟨k, hk, rfl, hc1, hg1⟩
  have HL : Hid (∀ W, w.grownBy W (some gt) → Rd W B 1 A nl (L.map iv)) := Lib.hid (fun W hg => hL.keep fun p hp => World.cell?_of_block (hg.block p.block (by omega) (fun e => by have := Option.some.inj e; omega)))
  clear hc hL
  go_wp2_with fail
  go_loopw [3, 4] (fun v i wr => ∃ (s : ByteArray) (m j : Nat), m + j ≤ 2 ∧ s ∈ preL m ∧ v = .string s ∧ i = .int .i64 j ∧ TapeTo gt A nl cl (at_ + 1 + m) w wr) (fun _ i _ => (intOf i).toNat)
  case atStart => exact ⟨⟨#[]⟩, 0, k, by omega, by simp [preL], rfl, rfl, hc1, hg1⟩
  case round =>
    obtain ⟨s, m, j, hmj, hs, rfl, rfl, hcr, hgr⟩ := hrel
    have hsz := pre_size (by omega) hs
    have hsr := hgr.size
    by_cases hj : 0 < j
    · have d1 : decide (0 < (j : Int)) = true := by simp; omega
      have d2 : decide (0 < j) = true := by simp; omega
      go_wp2_with fail
      refine (Pick_any _ gt B A nl cl (at_ + 1 + m) L (hcr.alloc _) ((HL.out _ hgr).alloc (by omega) _) hB (by omega) dirsL wr.heap.size 5 9 (Cells.new' wr 9 _ rfl rfl) (by omega) (by decide) (by decide) 5 rfl).mono ?_
      rintro e w3 ⟨d, hd, rfl, hc3, hg3⟩
      have hdz := dir_size hd
      have hsz2 : (s ++ d).size = s.size + d.size := ByteArray.size_append
      have wj : IntKind.i64.wrap ((j : Int) - 1) = ((j - 1 : Nat) : Int) := by rw [IntWalk.i64_in _ (by omega)]; omega
      have a1 : (s.size : Int) + (d.size : Int) ≤ 9223372036854775807 := by omega
      have a2 : ((s ++ d).size : Int) + 1 ≤ 9223372036854775807 := by omega
      go_wp2_with fail
      refine ⟨⟨s ++ d ++ ⟨#[47]⟩, m + 1, j - 1, by omega, List.mem_flatMap.2 ⟨s, hs, List.mem_map.2 ⟨d, hd, rfl⟩⟩, rfl, rfl, ?_, (hgr.trans (World.grownBy_alloc _ _ _)).trans hg3⟩, by simp [intOf]; omega⟩
      rw [show at_ + 1 + (m + 1) = at_ + 1 + m + 1 from by omega]
      exact hc3
    · have d1 : decide (0 < (j : Int)) = false := by simp; omega
      have d2 : decide (0 < j) = false := by simp; omega
      go_wp2_with fail
      refine (Pick_any _ gt B A nl cl (at_ + 1 + m) L (hcr.alloc _) ((HL.out _ hgr).alloc (by omega) _) hB (by omega) filesL wr.heap.size 6 9 (Cells.new' wr 9 _ rfl rfl) (by omega) (by decide) (by decide) 6 rfl).mono ?_
      rintro e w3 ⟨d, hd, rfl, hc3, hg3⟩
      have hdz := file_size hd
      have a1 : (s.size : Int) + (d.size : Int) ≤ 9223372036854775807 := by omega
      go_wp2_with fail
      go_ret
      obtain ⟨p1, p2⟩ := paths_of (by omega) hs hd
      refine ⟨s ++ d, m + 2, by omega, p1, p2, rfl, ?_, (hgr.trans (World.grownBy_alloc _ _ _)).trans hg3⟩
      rw [show at_ + (m + 2) = at_ + 1 + m + 1 from by omega]
      exact hc3
end Go.Proofs.YtipepcjiogifaaaDoor
set_option linter.unusedSimpArgs false
set_option linter.unusedVariables false
namespace Go.Adm
open Go Go.RowKit
/-- append to an empty literal: as to nil, where anything is appended. -/
theorem run_app_zero {P : Program} (w : World) {t e : TypeId} {z : Value} {size bytes : Nat} (E : ElemOf P t e z size bytes) (ty : TypeId) (ad : Addr) (A : Option Addr) (m c : Nat) (hm : 0 < m) (hbytes : m * bytes ≤ 140737488355328) :
    (Builtin.append_ #[t, t] ty #[.slice (some ad) 0 0, .slice A m c]).run P w = (Builtin.append_ #[t, t] ty #[.slice none 0 0, .slice A m c]).run P w := by
  obtain ⟨i, hi, hz, hsize, hby⟩ := E.hi
  have h0 : ¬ (m ≤ 0) := by omega
  have hcap : Builtin.nextslicecap m 0 = m := by
    unfold Builtin.nextslicecap
    simp
    omega
  have h1 : m ≠ 0 := by omega
  have hb : ¬ (281474976710656 < m * bytes) := by omega
  have hb0 : ¬ (bytes = 0) := by have := E.hb; omega
  have hlc : ∀ W : World, (loadCells ad 0).run P W = .ok #[] W := fun W => by simp [loadCells, loadCellsFrom]
  simp [Builtin.append_, run_underlying E.ht, sizeOf, typeInfo, hi, Builtin.lenOf, h0, h1, hb, hb0, hcap, hby, Builtin.firstCells, hlc]
theorem wp_app0 {P : Program} {w : World} {o : Oper} {a : Act} {K : Act → World → Prop} {Q : Exit → Act → World → Prop} {t e : TypeId} {z : Value} {size bytes : Nat} (E : ElemOf P t e z size bytes) (s x : Operand)
    (ho : o.op = .call { callee := .builtin .append, args := #[s, x], argTypes := #[t, t] })
    (base : Nat) (ad : Addr) (hs : a.eval s = .slice (some ad) 0 0) (hown : Own w base e size (some ad) 0 0 [])
    (A : Option Addr) (m c : Nat) (news : List Value) (hx : a.eval x = .slice A m c) (hr : Rd w w.heap.size size A m news) (h1 : ∀ u ∈ news, u.oneCell' = true)
    (hbytes : m * bytes ≤ 140737488355328) (hbase : base ≤ w.heap.size)
    (h : ∀ A' c' w', Own w' base e size A' m c' news → w.grownBy w' none → K (a.put o.dst (.slice A' m c')) w') : o.wp P a w K Q := by
  rcases Nat.eq_zero_or_pos m with h0 | h0
  · subst h0
    have hn : news = [] := List.eq_nil_of_length_eq_zero (by simpa using hr.len)
    subst hn
    obtain ⟨i, hi, hz, hsize, hby⟩ := E.hi
    have hrun : (Builtin.append_ #[t, t] o.type #[.slice (some ad) 0 0, .slice A 0 c]).run P w = .ok (.slice (some ad) 0 0) w := by
      cases A with
      | none => exact run_app_none w base t o.type e i size E.ht hi _ 0 [] hown c
      | some b =>
        have hlc : ∀ W : World, (loadCells b 0).run P W = .ok #[] W := fun W => by simp [loadCells, loadCellsFrom]
        simp [Builtin.append_, run_underlying E.ht, sizeOf, typeInfo, hi, Builtin.lenOf, Builtin.firstCells, hlc, storeCells]
    unfold Oper.wp execOp
    simp only [ho, resolve, invoke, builtin, Sem.run_bind, Sem.run_pure, Result.andThen_ok, List.map_toArray, List.map_cons, List.map_nil, hs, hx, hrun]
    exact h _ _ _ hown (World.grownBy.refl _ _)
  · obtain ⟨A', c', w', hrun, h2, _, h4, _, _⟩ := run_app (P := P) w E base o.type none 0 0 [] (Go.Adm.Own.nil _ _ _ _) w.heap.size A m c news hr h1 (by rw [Nat.zero_add]; exact hbytes) hbase
    rw [← run_app_zero w E o.type ad A m c h0 hbytes] at hrun
    simp only [Nat.zero_add, List.nil_append] at hrun h2
    unfold Oper.wp execOp
    simp only [ho, resolve, invoke, builtin, Sem.run_bind, Sem.run_pure, Result.andThen_ok, List.map_toArray, List.map_cons, List.map_nil, hs, hx, hrun]
    exact h A' c' w' h2 h4
def VF.lit0 (base : Nat) (e : TypeId) (size : Nat) : VF := .gen (fun w v => base ≤ w.heap.size ∧ ∃ ad, v = .slice (some ad) 0 0 ∧ Own w base e size (some ad) 0 0 []) fun _ _ _ hg ⟨hb, ad, hv, h⟩ => ⟨Nat.le_trans hb hg.size, ad, hv, h.kept ⟨hg.os, hg.tape, hg.output, hg.size, fun k hk => hg.block k hk (by simp)⟩⟩
theorem flat_takeE {α : Type} {f : α → List Value} {size : Nat} {l : List α} (h : ∀ x ∈ l, (f x).length = size) (k : Nat) : (l.map f).flatten.take (k * size) = ((l.take k).map f).flatten := by
  rw [flat_take k (fun e he => by obtain ⟨x, hx, rfl⟩ := List.mem_map.1 he; exact h x hx), List.map_take]
theorem flat_dropE {α : Type} {f : α → List Value} {size : Nat} {l : List α} (h : ∀ x ∈ l, (f x).length = size) (k : Nat) : (l.map f).flatten.drop (k * size) = ((l.drop k).map f).flatten := by
  rw [flat_drop k (fun e he => by obtain ⟨x, hx, rfl⟩ := List.mem_map.1 he; exact h x hx), List.map_drop]
end Go.Adm
namespace Go.Proofs.YtipepcjiogifaaaDoor
open Go Go.RowKit Go.Adm

end Go.Proofs.YtipepcjiogifaaaDoor
set_option linter.unusedSimpArgs false
set_option linter.unusedVariables false
namespace Go.Adm
open Go Go.RowKit
def otherB (e x : E) : Bool := !(x.p.toList == e.p.toList)
theorem filter_step {α : Type} (q : α → Bool) (l : List α) (k : Nat) (hk : k < l.length) : (l.take (k + 1)).filter q = (l.take k).filter q ++ (if q l[k] then [l[k]] else []) := by
  rw [List.take_succ_eq_append_getElem hk, List.filter_append]
  congr 1
  by_cases h : q l[k] = true <;> simp [h]
theorem swap_two {α : Type} (a b : List α) (y e : α) : ((a ++ y :: e :: b).set (a.length + 1) y).set a.length e = a ++ e :: y :: b := by
  simp [List.set_append]
theorem swap_down {α : Type} {f : List α} {j : Nat} (hj : 0 < j) {y : α} (hy : f[j - 1]? = some y) (e : α) : ((f.take j ++ e :: f.drop j).set j y).set (j - 1) e = f.take (j - 1) ++ e :: f.drop (j - 1) ∧ f.drop (j - 1) = y :: f.drop j := by
  obtain ⟨i, rfl⟩ : ∃ i, j = i + 1 := ⟨j - 1, by omega⟩
  simp only [Nat.add_sub_cancel] at hy ⊢
  obtain ⟨hlt, hy⟩ := List.getElem?_eq_some_iff.1 hy
  have h1 : f.drop i = y :: f.drop (i + 1) := by rw [List.drop_eq_getElem_cons hlt, hy]
  have h2 : f.take (i + 1) = f.take i ++ [y] := by rw [List.take_succ_eq_append_getElem hlt, hy]
  have h3 : (f.take i).length = i := by rw [List.length_take]; omega
  refine ⟨?_, h1⟩
  have h4 := swap_two (f.take i) (f.drop (i + 1)) y e
  rw [h3] at h4
  rw [h1, h2, List.append_assoc]
  exact h4
end Go.Adm
namespace Go.Proofs.YtipepcjiogifaaaDoor
open Go Go.RowKit Go.Adm

set_option maxRecDepth 100000 in
set_option maxHeartbeats 3200000 in
theorem Put_any (w : World) (B : Nat) (A : Option Addr) (n c : Nat) (l f : List E) (e : E) (hf : l.filter (otherB e) = f) (hl : Els w B 33 A n (l.map entC)) (h32 : ∀ e ∈ l, E32 e) (he : E32 e) (hn : l.length = n) (hn2 : n ≤ 1000) (hB : B ≤ w.heap.size) :
    Calls Tryd.prog 23 #[.slice A n c, .agg (entC e).toArray] w fun en w' => ∃ j ≤ f.length, (∀ x ∈ f.drop j, blt e.p x.p = true) ∧ (j = 0 ∨ ∃ y, f[j - 1]? = some y ∧ blt e.p y.p = false) ∧
      OwnPost entC 33 (f.take j ++ e :: f.drop j) 50 w en w' := by
  have hR : All w [.low (.els B 33 A n (l.map entC)), .kept w w.heap.size] := ⟨⟨hl, hB⟩, ⟨Below.refl _ _, Nat.le_refl _⟩, trivial⟩
  have HN := Lib.hid hn
  have H32 := Lib.hid h32
  have HEE := Lib.hid he
  have hR1 : All (w.alloc (.cells (entC e).toArray 50)) [.own (w.heap.size + 1) 50 33 none 0 0 ((((l.take 0).filter (otherB e)).map entC).flatten), .cells w.heap.size 50 (entC e), .low (.els B 33 A n (l.map entC)), .kept w w.heap.size] := ⟨Go.Adm.Own.nil _ _ _ _, hR.new (l := entC e) _ _ rfl rfl⟩
  have HFE := Lib.hid hf
  clear hl h32 hn he hR hf
  have hs1 : w.heap.size + 1 ≤ (w.alloc (.cells (entC e).toArray 50)).heap.size := by simp
  go_enter Tryd.func23, Tryd.ntmps23
  go_upto_region 1 with (fail)
  refine wp_genP (Pr := fun W => All W [.own (w.heap.size + 1) 50 33 none 0 0 ((((l.take 0).filter (otherB e)).map entC).flatten), .cells w.heap.size 50 (entC e), .low (.els B 33 A n (l.map entC)), .kept w w.heap.size] ∧ w.heap.size + 1 ≤ W.heap.size) ⟨hR1, hs1⟩ ?_
  clear hR1 hs1
  rintro W1 ⟨hI0, hs0⟩
  go_wp2
  go_loopw [5, 6] (fun v i wr => ∃ (k m : Nat) (A' : Option Addr) (c' : Nat), k ≤ n ∧ m = ((l.take k).filter (otherB e)).length ∧ i = .int .i64 k ∧ v = .slice A' m c' ∧ w.heap.size + 1 ≤ wr.heap.size ∧ All wr [.own (w.heap.size + 1) 50 33 A' m c' ((((l.take k).filter (otherB e)).map entC).flatten), .cells w.heap.size 50 (entC e), .low (.els B 33 A n (l.map entC)), .kept w w.heap.size]) (fun _ i _ => n - (intOf i).toNat)
  case atStart => exact ⟨0, 0, none, 0, by omega, rfl, rfl, rfl, hs0, hI0⟩
  case round =>
    obtain ⟨k, m, A', c', hk, hm, rfl, rfl, hsr, hI⟩ := hrel
    have HM := Lib.hid hm
    clear hm hI0 hs0
    by_cases hlt : k < n
    · have hkl : k < l.length := by rw [HN.out]; exact hlt
      have hmk : m ≤ k := by rw [HM.out]; exact Nat.le_trans (List.length_filter_le _ _) (by simp; omega)
      have hM := Lib.hid (filter_step (otherB e) l k hkl)
      obtain ⟨ad, rfl, hadB, hc⟩ := Els.elem (hI.at_ 2 rfl : Els wr B 33 A n (l.map entC) ∧ B ≤ wr.heap.size).1 hkl
      have HC := Lib.hid hc
      have hx := Lib.hid (H32.out _ (List.getElem_mem hkl))
      clear hc
      generalize l[k] = x at *
      have c0 : wr.cell? (ad.add (k * 33)) = some (.string x.p) := by have := HC.out 0 (sv x.p) rfl; rwa [add_zero] at this
      have c1 : wr.cell? ⟨w.heap.size, 0, none⟩ = some (.string e.p) := Cells.cell (hI.at_ 1 rfl) (i := 0) (by simp [entC])
      have d1 : decide ((k : Int) < (n : Int)) = true := by simp; omega
      have wk0 : (0 : Int) ≤ (k : Int) := by omega
      have wk1 : (k : Int) < (n : Int) := by omega
      have wk2 : ((k : Int)).toNat = k := by omega
      go_upto_region 5 with (fail)
      cases hq : (x.p.toList == e.p.toList) with
      | true =>
        have hq2 : (decide (x.p = e.p)) = true := by rw [← toList_beq]; exact hq
        have hF : Hid (((l.take (k + 1)).filter (otherB e)) = (l.take k).filter (otherB e)) := Lib.hid (by rw [hM.out, otherB, hq]; simp)
        clear hq2
        go_quiet (fail)
        clear hq
        go_wp2
        refine ⟨⟨k + 1, m, A', c', by omega, by rw [hF.out]; exact HM.out, by go_num, rfl, hsr, ?_⟩, by simp [intOf]; omega⟩
        rw [hF.out]
        exact hI.drewN _
      | false =>
        have hq2 : (decide (x.p = e.p)) = false := by rw [← toList_beq]; exact hq
        have hF : Hid (((l.take (k + 1)).filter (otherB e)) = (l.take k).filter (otherB e) ++ [x]) := Lib.hid (by rw [hM.out, otherB, hq]; simp)
        clear hq2
        go_quiet (fail)
        clear hq c0 c1
        have hI1 := hI.drewN nq
        have hsr1 : w.heap.size + 1 ≤ (wr.drewN nq).heap.size := hsr
        have HC1 : Hid (∀ j u, (entC x)[j]? = some u → (wr.drewN nq).cell? ((ad.add (k * 33)).add j) = some u) := HC
        generalize wr.drewN nq = wq at *
        go_wp2_with (first
          | (refine wl_load_any rfl 50 (.tmp 25) rfl (ad.add (k * 33)) rfl (entC x) _ HC1.out Tryd.underlying50 rfl (by rw [entC_len hx.out]; kernel_rfl) ?_)
          | (refine wl_lit1 el_ent rfl _ rfl (entC x) rfl (entC_len hx.out) (by decide) ?_)
          | (at_builtin; refine wl_app_at el_ent (hI1.alloc _) 0 rfl (.tmp 22) (.tmp 27) rfl (w.heap.size + 1) _ _ _ _ rfl rfl (wq.heap.size + 1) _ 1 1 (entC x) rfl (Rd.lit wq (entC x).toArray _ 1 (by rw [List.size_toArray]; exact entC_len hx.out)) (entC_one _) (by omega) (by simp; omega) (by intro g hg h; simp [Apart, Res.apart, Low.els] <;> omega) ?_; intro A7 c7 w7 hI7 hs7))
        refine ⟨⟨k + 1, m + 1, A7, c7, by omega, by rw [hF.out, List.length_append, ← HM.out]; rfl, by go_num, rfl, by simp at hs7; omega, ?_⟩, by simp [intOf]; omega⟩
        rw [hF.out, List.map_append, List.flatten_append]
        simpa using hI7
    · obtain rfl : k = n := by omega
      have d1 : decide ((k : Int) < (k : Int)) = false := by simp
      rw [List.take_of_length_le (by rw [HN.out]; omega)] at hI HM
      have hmk : m ≤ k := by rw [HM.out]; exact Nat.le_trans (List.length_filter_le _ _) (by rw [HN.out]; omega)
      have HF32 : Hid (∀ x ∈ l.filter (otherB e), E32 x) := Lib.hid fun x hx => H32.out x (List.mem_filter.1 hx).1
      rw [HFE.out] at hI HM HF32
      have hce : wr.cell? ⟨w.heap.size, 0, none⟩ = some (.string e.p) := Cells.cell (hI.at_ 1 rfl) (i := 0) (by simp [entC])
      have wm : IntKind.i64.wrap ((m : Int) + 1 - 1) = (m : Int) := by rw [IntWalk.i64_in _ (by omega)]; omega
      have wm2 : IntKind.i64.wrap (((m + 1 : Nat) : Int) - 1) = (m : Int) := by rw [IntWalk.i64_in _ (by omega)]; omega
      go_wp2_with (first
          | (refine wl_load_any rfl 50 (.tmp 3) rfl ⟨w.heap.size, 0, none⟩ rfl (entC e) _ (Cells.sub (hI.at_ 1 rfl) 0 (fun j u hu => by rw [Nat.zero_add]; exact hu)) Tryd.underlying50 rfl (by rw [entC_len HEE.out]; kernel_rfl) ?_)
          | (refine wl_lit1 el_ent rfl _ rfl (entC e) rfl (entC_len HEE.out) (by decide) ?_)
          | (at_builtin; refine wl_app_at el_ent (hI.alloc _) 0 rfl (.tmp 29) (.tmp 31) rfl (w.heap.size + 1) _ _ _ _ rfl rfl (wr.heap.size + 1) _ 1 1 (entC e) rfl (Rd.lit wr (entC e).toArray _ 1 (by rw [List.size_toArray]; exact entC_len HEE.out)) (entC_one _) (by omega) (by simp; omega) (by intro g hg h; simp [Apart, Res.apart, Low.els] <;> omega) ?_; intro A2 c2 w7 hI7 hs7))
      have hI8 : All w7 [.own (w.heap.size + 1) 50 33 A2 (m + 1) c2 (((f.take m ++ e :: f.drop m).map entC).flatten), .kept w w.heap.size] := by
        refine ⟨?_, hI7.at_ 3 rfl, trivial⟩
        have h1 := hI7.at_ 0 rfl
        rw [HM.out, List.take_length, List.drop_length, List.map_append, List.flatten_append]
        rw [← HM.out]
        simpa using h1
      have hs8 : w.heap.size + 1 ≤ w7.heap.size := by simp at hs7; omega
      clear hI7 hs7 hI hsr hce wm wm2
      go_loopw [7] (fun i wr => ∃ (j : Nat), j ≤ m ∧ i = .int .i64 j ∧ (∀ x ∈ f.drop j, blt e.p x.p = true) ∧ w.heap.size + 1 ≤ wr.heap.size ∧ All wr [.own (w.heap.size + 1) 50 33 A2 (m + 1) c2 (((f.take j ++ e :: f.drop j).map entC).flatten), .kept w w.heap.size]) (fun i _ => (intOf i).toNat)
      case atStart => exact ⟨m, by omega, rfl, by rw [HM.out, List.drop_length]; simp, hs8, hI8⟩
      case round =>
        obtain ⟨j, hj, rfl, hbig, hsr, hI⟩ := hrel
        have HBIG := Lib.hid hbig
        clear hI8 hs8 hbig
        rcases Nat.eq_zero_or_pos j with hj0 | hj0
        · subst hj0
          have d1 : decide ((0 : Int) < ((0 : Nat) : Int)) = false := by simp
          go_upto_region 9 with (fail)
          go_quiet (fail)
          go_wp2
          go_ret
          refine ⟨0, by omega, HBIG.out, .inl rfl, A2, c2, ?_, ?_, ((hI.drewN nq).at_ 1 rfl).1⟩
          · rw [List.take_zero, List.drop_zero, List.nil_append, List.length_cons, ← HM.out]; rfl
          · have h1 := (hI.at_ 0 rfl : Go.Adm.Own _ _ _ _ _ _ _ _).less (base' := w.heap.size) (by omega)
            rw [List.take_zero, List.drop_zero, List.nil_append] at h1 ⊢
            rw [List.length_cons, ← HM.out]
            exact h1
        · have d1 : decide ((0 : Int) < (j : Int)) = true := by simp; omega
          have hjf : j - 1 < f.length := by rw [← HM.out]; omega
          have HL : Hid ((f.take j ++ e :: f.drop j).length = m + 1) := Lib.hid (by simp; rw [← HM.out]; omega)
          have HLe : Hid ((f.take j ++ e :: f.drop j)[j]? = some e) := Lib.hid (by rw [List.getElem?_append_right (by rw [List.length_take]; omega), List.length_take, Nat.min_eq_left (by rw [← HM.out]; omega), Nat.sub_self]; rfl)
          have HLp : Hid ((f.take j ++ e :: f.drop j)[j - 1]? = some f[j - 1]) := Lib.hid (by rw [List.getElem?_append_left (by simp; omega), List.getElem?_take_of_lt (by omega), List.getElem?_eq_getElem hjf])
          have HL32 : Hid (∀ x ∈ (f.take j ++ e :: f.drop j), E32 x) := Lib.hid (fun x hx => by
            rcases List.mem_append.1 hx with h | h
            · exact HF32.out x (List.mem_of_mem_take h)
            · rcases List.mem_cons.1 h with rfl | h
              · exact HEE.out
              · exact HF32.out x (List.mem_of_mem_drop h))
          have hEls : ∀ W : World, Go.Adm.Own W (w.heap.size + 1) 50 33 A2 (m + 1) c2 (((f.take j ++ e :: f.drop j).map entC).flatten) → Els W W.heap.size 33 A2 (m + 1) ((f.take j ++ e :: f.drop j).map entC) := fun W h => Els.of h (ents_len HL32.out) (by rw [List.length_map]; exact HL.out)
          obtain ⟨g, rfl⟩ : ∃ g, A2 = some ⟨g, 0, none⟩ := by
            rcases (hI.at_ 0 rfl : Go.Adm.Own _ _ _ _ _ _ _ _).2 with ⟨_, h⟩ | ⟨g, cap, cur, hv, _⟩
            · omega
            · injection hv with h1; exact ⟨g, h1⟩
          have hcell : Hid (∀ W : World, Go.Adm.Own W (w.heap.size + 1) 50 33 (some ⟨g, 0, none⟩) (m + 1) c2 (((f.take j ++ e :: f.drop j).map entC).flatten) → ∀ (i : Nat) (z : E), (f.take j ++ e :: f.drop j)[i]? = some z → ∀ q s, (entC z)[q]? = some s → W.cell? ⟨g, i * 33 + q, none⟩ = some s) := Lib.hid fun W hW i z hz q s hs => by
            obtain ⟨hlt, hz⟩ := List.getElem?_eq_some_iff.1 hz
            obtain ⟨ad, e1, _, hc⟩ := Els.elem (hEls W hW) hlt
            obtain rfl := Option.some.inj e1
            rw [hz] at hc
            have := hc q s hs
            rw [add_add] at this
            have ea : (⟨g, 0, none⟩ : Addr).add (i * 33 + q) = ⟨g, i * 33 + q, none⟩ := by
              unfold Addr.add
              split
              · rename_i h0; rw [h0]
              · simp
            rwa [ea] at this
          have hy32 := Lib.hid (HF32.out _ (List.getElem_mem hjf))
          have HJY : Hid (f[j - 1]? = some f[j - 1]) := Lib.hid (List.getElem?_eq_getElem hjf)
          generalize f[j - 1] = y at *
          clear hEls
          have ce : wr.cell? ⟨g, j * 33, none⟩ = some (.string e.p) := hcell.out wr (hI.at_ 0 rfl) j e HLe.out 0 _ rfl
          have cy : wr.cell? ⟨g, (j - 1) * 33, none⟩ = some (.string y.p) := hcell.out wr (hI.at_ 0 rfl) (j - 1) y HLp.out 0 _ rfl
          have wj : IntKind.i64.wrap ((j : Int) - 1) = ((j - 1 : Nat) : Int) := by rw [IntWalk.i64_in _ (by omega)]; omega
          have wk0 : (0 : Int) ≤ (j : Int) := by omega
          have wk1 : (j : Int) < ((m + 1 : Nat) : Int) := by omega
          have wk1' : (j : Int) < (m : Int) + 1 := by omega
          have wk2 : ((j : Int)).toNat = j := by omega
          have wl0 : (0 : Int) ≤ ((j - 1 : Nat) : Int) := by omega
          have wl1 : ((j - 1 : Nat) : Int) < ((m + 1 : Nat) : Int) := by omega
          have wl1' : ((j - 1 : Nat) : Int) < (m : Int) + 1 := by omega
          have wl2 : (((j - 1 : Nat) : Int)).toNat = j - 1 := by omega
          cases hb : blt e.p y.p with
          | false =>
            have hb2 : Op.bytesLess e.p.toList y.p.toList = false := hb
            go_upto_region 9 with (fail)
            go_quiet (fail)
            clear ce cy
            go_wp2
            go_ret
            refine ⟨j, by rw [← HM.out]; omega, HBIG.out, .inr ⟨y, HJY.out, hb⟩, some ⟨g, 0, none⟩, c2, ?_, ?_, ((hI.drewN nq).at_ 1 rfl).1⟩
            · rw [HL.out]; rfl
            · rw [HL.out]
              exact (hI.at_ 0 rfl : Go.Adm.Own _ _ _ _ _ _ _ _).less (base' := w.heap.size) (by omega)
          | true =>
            have hb2 : Op.bytesLess e.p.toList y.p.toList = true := hb
            go_upto_region 9 with (fail)
            go_quiet (fail)
            clear ce cy
            go_upto_region 11 with (fail)
            refine wp_region_order [54, 55, 56, 57, 58, 59, 60, 61, 62, 63, 64, 65, 66, 67, 68, 1015, 69, 1017]
              (fun L W => All W [.own (w.heap.size + 1) 50 33 (some ⟨g, 0, none⟩) (m + 1) c2 (((if L 17 then ((f.take j ++ e :: f.drop j).set j y).set (j - 1) e else if L 15 then (f.take j ++ e :: f.drop j).set j y else (f.take j ++ e :: f.drop j)).map entC).flatten), .kept w w.heap.size] ∧ w.heap.size + 1 ≤ W.heap.size)
              (fun k => [.slice (some ⟨g, 0, none⟩) (m + 1) c2, .int .i64 (j : Int), .slice (some ⟨g, 0, none⟩) (m + 1) c2, .int .i64 (j : Int), .int .i64 ((j - 1 : Nat) : Int), .slice (some ⟨g, 0, none⟩) (m + 1) c2, .int .i64 (j : Int), .int .i64 ((j - 1 : Nat) : Int), .pointer (some ⟨g, (j - 1) * 33, none⟩), .agg (entC y).toArray, .slice (some ⟨g, 0, none⟩) (m + 1) c2, .int .i64 (j : Int), .pointer (some ⟨g, j * 33, none⟩), .agg (entC e).toArray, .pointer (some ⟨g, j * 33, none⟩), undef, .pointer (some ⟨g, (j - 1) * 33, none⟩), undef].getD k undef)
              (by kernel_rfl) (by kernel_rfl) (by simp) ?hev ⟨(hI.drewN nq).drew, hsr⟩ rfl ?hops ?fin
            case hev =>
              intro k t hk ht
              have h0 : [54, 55, 56, 57, 58, 59, 60, 61, 62, 63, 64, 65, 66, 67, 68, 1015, 69, 1017].getD k 0 = t := by rw [List.getD, hk]; rfl
              have h1 : ∀ k, k < 15 → [54, 55, 56, 57, 58, 59, 60, 61, 62, 63, 64, 65, 66, 67, 68, 1015, 69, 1017].getD k 0 < 1000 := by decide
              have h2 : k < 18 := (List.getElem?_eq_some_iff.1 hk).1
              rcases (by omega : k < 15 ∨ k = 15 ∨ k = 16 ∨ k = 17) with h | rfl | rfl | rfl
              · have := h1 k h; omega
              · rfl
              · have h3 : 69 = t := h0
                omega
              · rfl
            case hops =>
              have hset : (f.take j ++ e :: f.drop j).length = m + 1 := HL.out
              refine ⟨?_, ?_, ?_, ?_, ?_, ?_, ?_, ?_, ?_, ?_, ?_, ?_, ?_, ?_, ?_, ?_, ?_, ?_, trivial⟩
              · refine ⟨rfl, ?_⟩
                intro a W L hJ hk hcl hold hb K hK
                have b5 := hold 5 rfl
                go_simp
                exact hK _ hJ
              · refine ⟨rfl, ?_⟩
                intro a W L hJ hk hcl hold hb K hK
                have b7 := hold 7 rfl
                go_simp
                exact hK _ hJ
              · refine ⟨rfl, ?_⟩
                intro a W L hJ hk hcl hold hb K hK
                have b5 := hold 5 rfl
                go_simp
                exact hK _ hJ
              · refine ⟨rfl, ?_⟩
                intro a W L hJ hk hcl hold hb K hK
                have b7 := hold 7 rfl
                go_simp
                exact hK _ hJ
              · refine ⟨rfl, ?_⟩
                intro a W L hJ hk hcl hold hb K hK
                have b57 : a.tmps[57]?.getD undef = _ := (hb ⟨3, .data⟩ (by simp) rfl).2
                go_simp
                exact hK _ hJ
              · refine ⟨rfl, ?_⟩
                intro a W L hJ hk hcl hold hb K hK
                have b5 := hold 5 rfl
                go_simp
                exact hK _ hJ
              · refine ⟨rfl, ?_⟩
                intro a W L hJ hk hcl hold hb K hK
                have b7 := hold 7 rfl
                go_simp
                exact hK _ hJ
              · refine ⟨rfl, ?_⟩
                intro a W L hJ hk hcl hold hb K hK
                have b60 : a.tmps[60]?.getD undef = _ := (hb ⟨6, .data⟩ (by simp) rfl).2
                go_simp
                exact hK _ hJ
              · refine ⟨rfl, ?_⟩
                intro a W L hJ hk hcl hold hb K hK
                have b59 : a.tmps[59]?.getD undef = _ := (hb ⟨5, .data⟩ (by simp) rfl).2
                have b61 : a.tmps[61]?.getD undef = _ := (hb ⟨7, .data⟩ (by simp) rfl).2
                go_simp
                exact hK _ hJ
              · refine ⟨rfl, ?_⟩
                intro a W L hJ hk hcl hold hb K hK
                have b62 : a.tmps[62]?.getD undef = _ := (hb ⟨8, .data⟩ (by simp) rfl).2
                have h15 : L 15 = false := by
                  cases h : L 15 with
                  | false => rfl
                  | true =>
                    have h2 := hcl 15 _ rfl h ⟨9, .data⟩ (by simp) rfl
                    rw [hk] at h2
                    cases h2
                have h17 : L 17 = false := by
                  cases h : L 17 with
                  | false => rfl
                  | true =>
                    have h2 := hcl 17 _ rfl h ⟨15, .chain⟩ (by simp) rfl
                    rw [h15] at h2
                    cases h2
                have hJ1 := hJ.1
                simp only [h17, h15, Bool.false_eq_true, if_false] at hJ1
                refine wp_load_any 50 (.tmp 62) rfl ⟨g, (j - 1) * 33, none⟩ (by simp [Act.eval, b62]) (entC y) _ (fun q u hu => by rw [add_lit]; exact hcell.out W (hJ1.at_ 0 rfl) _ y HLp.out q u hu) Tryd.underlying50 rfl (by rw [entC_len hy32.out]; kernel_rfl) ?_
                exact hK _ hJ
              · refine ⟨rfl, ?_⟩
                intro a W L hJ hk hcl hold hb K hK
                have b5 := hold 5 rfl
                go_simp
                exact hK _ hJ
              · refine ⟨rfl, ?_⟩
                intro a W L hJ hk hcl hold hb K hK
                have b7 := hold 7 rfl
                go_simp
                exact hK _ hJ
              · refine ⟨rfl, ?_⟩
                intro a W L hJ hk hcl hold hb K hK
                have b64 : a.tmps[64]?.getD undef = _ := (hb ⟨10, .data⟩ (by simp) rfl).2
                have b65 : a.tmps[65]?.getD undef = _ := (hb ⟨11, .data⟩ (by simp) rfl).2
                go_simp
                exact hK _ hJ
              · refine ⟨rfl, ?_⟩
                intro a W L hJ hk hcl hold hb K hK
                have b66 : a.tmps[66]?.getD undef = _ := (hb ⟨12, .data⟩ (by simp) rfl).2
                have h15 : L 15 = false := by
                  cases h : L 15 with
                  | false => rfl
                  | true =>
                    have h2 := hcl 15 _ rfl h ⟨13, .phase⟩ (by simp) rfl
                    rw [hk] at h2
                    cases h2
                have h17 : L 17 = false := by
                  cases h : L 17 with
                  | false => rfl
                  | true =>
                    have h2 := hcl 17 _ rfl h ⟨15, .chain⟩ (by simp) rfl
                    rw [h15] at h2
                    cases h2
                have hJ1 := hJ.1
                simp only [h17, h15, Bool.false_eq_true, if_false] at hJ1
                refine wp_load_any 50 (.tmp 66) rfl ⟨g, j * 33, none⟩ (by simp [Act.eval, b66]) (entC e) _ (fun q u hu => by rw [add_lit]; exact hcell.out W (hJ1.at_ 0 rfl) _ e HLe.out q u hu) Tryd.underlying50 rfl (by rw [entC_len HEE.out]; kernel_rfl) ?_
                exact hK _ hJ
              · refine ⟨rfl, ?_⟩
                intro a W L hJ hk hcl hold hb K hK
                have b54 : a.tmps[54]?.getD undef = _ := (hb ⟨0, .data⟩ (by simp) rfl).2
                have b55 : a.tmps[55]?.getD undef = _ := (hb ⟨1, .data⟩ (by simp) rfl).2
                go_simp
                exact hK _ hJ
              · refine ⟨rfl, ?_⟩
                intro a W L hJ hk hcl hold hb K hK
                have b68 : a.tmps[68]?.getD undef = _ := (hb ⟨14, .data⟩ (by simp) rfl).2
                have b63 : a.tmps[63]?.getD undef = _ := (hb ⟨9, .data⟩ (by simp) rfl).2
                have h17 : L 17 = false := by
                  cases h : L 17 with
                  | false => rfl
                  | true =>
                    have h2 := hcl 17 _ rfl h ⟨15, .chain⟩ (by simp) rfl
                    rw [hk] at h2
                    cases h2
                have hJ1 := hJ.1
                simp only [h17, hk, Bool.false_eq_true, if_false] at hJ1
                refine wp_store_el (.tmp 68) (.tmp 63) rfl (hJ1.at_ 0 rfl) (j := j) (by omega) hset (fun x hx => entC_len (HL32.out x hx)) y (entC_len hy32.out) (by simp [Act.eval, b68]) (by simp [Act.eval, b63]) (by kernel_rfl) (entC_one y) ?_
                intro w' hown' hg' hs'
                refine hK _ ⟨?_, by omega⟩
                have hlt := (hJ1.at_ 0 rfl : Go.Adm.Own _ _ _ _ _ _ _ _).lt (g := g) rfl
                have hA := All.upd hg' 0 (.own (w.heap.size + 1) 50 33 (some ⟨g, 0, none⟩) (m + 1) c2 (((f.take j ++ e :: f.drop j).set j y).map entC).flatten) hJ1 hown' (by simp [Apart, Res.apart] <;> omega)
                have m1 : Go.Adm.mark L 15 17 = false := h17
                have m2 : Go.Adm.mark L 15 15 = true := rfl
                simp only [m1, m2, Bool.false_eq_true, if_false, if_true]
                exact hA
              · refine ⟨rfl, ?_⟩
                intro a W L hJ hk hcl hold hb K hK
                have b56 : a.tmps[56]?.getD undef = _ := (hb ⟨2, .data⟩ (by simp) rfl).2
                have b58 : a.tmps[58]?.getD undef = _ := (hb ⟨4, .data⟩ (by simp) rfl).2
                go_simp
                exact hK _ hJ
              · refine ⟨rfl, ?_⟩
                intro a W L hJ hk hcl hold hb K hK
                have b69 : a.tmps[69]?.getD undef = _ := (hb ⟨16, .data⟩ (by simp) rfl).2
                have b67 : a.tmps[67]?.getD undef = _ := (hb ⟨13, .data⟩ (by simp) rfl).2
                have h15 : L 15 = true := (hb ⟨15, .chain⟩ (by simp) rfl).1
                have hJ1 := hJ.1
                simp only [h15, hk, Bool.false_eq_true, if_false, if_true] at hJ1
                refine wp_store_el (.tmp 69) (.tmp 67) rfl (hJ1.at_ 0 rfl) (j := j - 1) (by omega) (by rw [List.length_set]; exact hset) (fun x hx => entC_len (by rcases List.mem_or_eq_of_mem_set hx with h | rfl; exact HL32.out x h; exact hy32.out)) e (entC_len HEE.out) (by simp [Act.eval, b69]) (by simp [Act.eval, b67]) (by kernel_rfl) (entC_one e) ?_
                intro w' hown' hg' hs'
                refine hK _ ⟨?_, by omega⟩
                have hlt := (hJ1.at_ 0 rfl : Go.Adm.Own _ _ _ _ _ _ _ _).lt (g := g) rfl
                have hA := All.upd hg' 0 (.own (w.heap.size + 1) 50 33 (some ⟨g, 0, none⟩) (m + 1) c2 ((((f.take j ++ e :: f.drop j).set j y).set (j - 1) e).map entC).flatten) hJ1 hown' (by simp [Apart, Res.apart] <;> omega)
                have m1 : Go.Adm.mark L 17 17 = true := rfl
                simp only [m1, if_true]
                exact hA
            case fin =>
              intro W L hJ hall
              have h17 := hall 17 (by decide)
              obtain ⟨hJ1, hsW⟩ := hJ
              simp only [h17, if_true] at hJ1
              obtain ⟨hR3, hR4⟩ := swap_down hj0 HJY.out e
              rw [hR3] at hJ1
              simp only [putAll, Act.put, List.setIfInBounds_toArray, List.set_cons_succ, List.set_cons_zero]
              go_wp2
              refine ⟨⟨j - 1, by omega, by go_num, ?_, hsW, hJ1⟩, by simp [intOf]; omega⟩
              intro x hx
              rw [hR4] at hx
              rcases List.mem_cons.1 hx with rfl | hx
              · exact hb
              · exact HBIG.out x hx
end Go.Proofs.YtipepcjiogifaaaDoor
set_option linter.unusedSimpArgs false
set_option linter.unusedVariables false
namespace Go.Adm
open Go Go.RowKit
structure GoodL (l : List E) : Prop where
  asc : Asc blt l
  each : ∀ x ∈ l, E32 x
  path : ∀ x ∈ l, pathB x.p = true
  non : ∀ x ∈ l, x.d ≠ z32
theorem GoodL.nil : GoodL [] := ⟨List.Pairwise.nil, by simp, by simp, by simp⟩
theorem GoodL.sub {l l' : List E} (h : GoodL l) (hs : l'.Sublist l) : GoodL l' := ⟨h.asc.sublist hs, fun x hx => h.each x (hs.subset hx), fun x hx => h.path x (hs.subset hx), fun x hx => h.non x (hs.subset hx)⟩
theorem GoodL.erase {l : List E} (h : GoodL l) (i : Nat) : GoodL (l.eraseIdx i) := h.sub (List.eraseIdx_sublist l i)
theorem GoodL.put {l f : List E} {e : E} {j : Nat} (h : GoodL l) (hf : l.filter (otherB e) = f) (he : E32 e) (hp : pathB e.p = true) (hd : e.d ≠ z32) (hj : j ≤ f.length) (hbig : ∀ x ∈ f.drop j, blt e.p x.p = true)
    (hsm : j = 0 ∨ ∃ y, f[j - 1]? = some y ∧ blt e.p y.p = false) : GoodL (f.take j ++ e :: f.drop j) ∧ (f.take j ++ e :: f.drop j).length ≤ l.length + 1 := by
  have hF : GoodL f := h.sub (hf ▸ List.filter_sublist)
  have hne : ∀ x ∈ f, x.p ≠ e.p := fun x hx => by
    rw [← hf] at hx
    have h1 := (List.mem_filter.1 hx).2
    intro e1
    rw [otherB, e1] at h1
    simp at h1
  have hlow : ∀ x ∈ f.take j, blt x.p e.p = true := by
    rcases hsm with rfl | ⟨y, hy, hb⟩
    · simp
    · intro x hx
      obtain ⟨hlt, hy⟩ := List.getElem?_eq_some_iff.1 hy
      have hym : y ∈ f := hy ▸ List.getElem_mem hlt
      have hye : blt y.p e.p = true := by
        rcases sto_blt.tot _ _ (hne y hym) with h1 | h1
        · exact h1
        · rw [hb] at h1; cases h1
      rcases Nat.eq_zero_or_pos j with h0 | h0
      · subst h0; simp at hx
      · have h2 : f.take j = f.take (j - 1) ++ [y] := by
          obtain ⟨i, rfl⟩ : ∃ i, j = i + 1 := ⟨j - 1, by omega⟩
          simp only [Nat.add_sub_cancel] at hlt hy ⊢
          rw [List.take_succ_eq_append_getElem hlt, hy]
        have h3 : (f.take j).Pairwise fun x y => blt x.p y.p = true := hF.asc.sublist (List.take_sublist _ _)
        rw [h2] at h3 hx
        rcases List.mem_append.1 hx with hx | hx
        · exact sto_blt.tr _ _ _ ((List.pairwise_append.1 h3).2.2 x hx y (by simp)) hye
        · rw [List.mem_singleton.1 hx]; exact hye
  have hmem : ∀ x ∈ f.take j ++ e :: f.drop j, x = e ∨ x ∈ f := fun x hx => by
    rcases List.mem_append.1 hx with h | h
    · exact .inr (List.mem_of_mem_take h)
    · rcases List.mem_cons.1 h with h | h
      · exact .inl h
      · exact .inr (List.mem_of_mem_drop h)
  refine ⟨⟨?_, ?_, ?_, ?_⟩, ?_⟩
  · refine List.pairwise_append.2 ⟨hF.asc.sublist (List.take_sublist _ _), List.pairwise_cons.2 ⟨hbig, hF.asc.sublist (List.drop_sublist _ _)⟩, fun a ha b hb => ?_⟩
    rcases List.mem_cons.1 hb with rfl | hb
    · exact hlow a ha
    · exact sto_blt.tr _ _ _ (hlow a ha) (hbig b hb)
  · intro x hx
    rcases hmem x hx with rfl | h1
    · exact he
    · exact hF.each x h1
  · intro x hx
    rcases hmem x hx with rfl | h1
    · exact hp
    · exact hF.path x h1
  · intro x hx
    rcases hmem x hx with rfl | h1
    · exact hd
    · exact hF.non x h1
  · have h1 : f.length ≤ l.length := hf ▸ List.length_filter_le _ _
    rw [List.length_append, List.length_cons, List.length_take, List.length_drop]
    omega
theorem GoodL.valid {l : List E} (h : GoodL l) (hl : l.length ≤ 64) : validB l = true := by
  rw [validB_all, decide_eq_true hl]
  intro i hi
  rw [okAt_at _ _ _ _ hi]
  have hg : goodE l[i] = true := by
    simp only [goodE, h.path _ (List.getElem_mem hi), Bool.true_and, Bool.not_eq_true', decide_eq_false_iff_not]
    exact h.non _ (List.getElem_mem hi)
  rcases i with _ | i
  · exact okAt1_zero _ _ _ _ _ hg rfl
  · exact okAt1_succ _ _ _ _ i _ hg rfl (by omega) (List.pairwise_iff_getElem.1 h.asc i (i + 1) (by omega) hi (by omega))
end Go.Adm
namespace Go.Proofs.YtipepcjiogifaaaDoor
open Go Go.RowKit Go.Adm

/-- a list in order, in memory, as the program holds it -/
theorem Put_good (w : World) (B : Nat) (A : Option Addr) (n c : Nat) (l : List E) (e : E) (h : GoodL l) (hl : Els w B 33 A n (l.map entC)) (he : E32 e) (hp : pathB e.p = true) (hd : e.d ≠ z32) (hn : l.length = n) (hn2 : n ≤ 1000) (hB : B ≤ w.heap.size) :
    Calls Tryd.prog 23 #[.slice A n c, .agg (entC e).toArray] w fun en w' => ∃ l', GoodL l' ∧ l'.length ≤ n + 1 ∧ OwnPost entC 33 l' 50 w en w' :=
  (Put_any w B A n c l _ e rfl hl h.each he hn hn2 hB).mono fun en w' ⟨j, hj, h1, h2, h3⟩ => by
    obtain ⟨g1, g2⟩ := h.put rfl he hp hd hj h1 h2
    exact ⟨_, g1, by omega, h3⟩
end Go.Proofs.YtipepcjiogifaaaDoor
set_option linter.unusedSimpArgs false
set_option linter.unusedVariables false
namespace Go.Adm
open Go Go.RowKit
theorem grown_weaken {w w' : World} (h : w.grownBy w' none) (row : Option Nat) : w.grownBy w' row := ⟨h.os, h.tape, h.output, h.size, fun k hk _ => h.block k hk (by simp)⟩
end Go.Adm
namespace Go.Proofs.YtipepcjiogifaaaDoor
open Go Go.RowKit Go.Adm

/-- a list in order, owned; the tape at a place -/
def ListAt (w : World) (gt : Nat) (A : Option Addr) (nl cl : Nat) (m : Nat) (l : List E) (p : Option Addr) (c : Nat) (W : World) : Prop :=
  GoodL l ∧ Go.Adm.Own W w.heap.size 50 33 p l.length c (l.map entC).flatten ∧ TapeTo gt A nl cl m w W

set_option maxRecDepth 100000 in
set_option maxHeartbeats 3200000 in
/-- a list of at most so many entries -/
theorem TSnap_any (w : World) (gt B : Nat) (A : Option Addr) (nl cl at_ : Nat) (L : List Int) (hc : Cells w gt 27 [.slice A nl cl, .int .i64 at_]) (hL : Rd w B 1 A nl (L.map iv)) (hB : B ≤ gt) (hat : at_ ≤ 100000) (most : Nat) (hm : most ≤ 100) :
    Calls Tryd.prog 8 #[.pointer (some ⟨gt, 0, none⟩), .int .i64 most] w fun e w' => ∃ l p c m, l.length ≤ most ∧ m ≤ 5 * most ∧ e = .returned (.slice p l.length c) ∧ ListAt w gt A nl cl (at_ + 1 + m) l p c w' := by
  have hlt := Cells.lt hc
  have w1 : IntKind.i64.wrap ((most : Int) + 1) = ((most + 1 : Nat) : Int) := by rw [IntWalk.i64_in _ (by omega)]; omega
  go_enter Tryd.func8, Tryd.ntmps8
  go_wp2_with fail
  refine (Next_any w gt B A nl cl at_ (most + 1) L hc hL hB (by omega) (by omega) (by omega)).mono ?_
  rintro e w1 ⟨k, hk, rfl, hc1, hg1⟩
  have HL : Hid (∀ W, w.grownBy W (some gt) → Rd W B 1 A nl (L.map iv)) := Lib.hid (fun W hg => hL.keep fun p hp => World.cell?_of_block (hg.block p.block (by omega) (fun e => by have := Option.some.inj e; omega)))
  clear hc hL
  go_wp2_with fail
  go_loopw [5, 6] (fun v i wr => ∃ (l : List E) (p : Option Addr) (c m j : Nat), j + l.length ≤ most ∧ m + 5 * j ≤ 5 * most ∧ v = .slice p l.length c ∧ i = .int .i64 j ∧ ListAt w gt A nl cl (at_ + 1 + m) l p c wr) (fun _ i _ => (intOf i).toNat)
  case atStart => exact ⟨[], none, 0, 0, k, by simp; omega, by omega, rfl, rfl, GoodL.nil, Go.Adm.Own.nil _ _ _ _, hc1, hg1⟩
  case round =>
    obtain ⟨l, p, c, m, j, hjl, hmj, rfl, rfl, hgl, hown, hcr, hgr⟩ := hrel
    have hsr := hgr.size
    by_cases hj : 0 < j
    · have d1 : decide (0 < (j : Int)) = true := by simp; omega
      have d2 : decide (0 < j) = true := by simp; omega
      go_wp2_with fail
      refine (TPath_any _ gt B A nl cl (at_ + 1 + m) L hcr (HL.out _ hgr) hB (by omega)).mono ?_
      rintro e w3 ⟨s, m3, hm3, hsp, hsz, rfl, hc3, hg3⟩
      have hg3' := hgr.trans hg3
      have hs3 := hg3.size
      have hI3 : All w3 [.own w.heap.size 50 33 p l.length c (l.map entC).flatten] := All.step hg3 (⟨hown, trivial⟩ : All wr [.own w.heap.size 50 33 p l.length c (l.map entC).flatten]) ⟨fun g' e => .inl (by injection e with e; omega), trivial⟩
      clear hown
      go_wp2_with fail
      refine (Sum_any _ gt B A nl cl (at_ + 1 + m + m3) L hc3 (HL.out _ hg3') hB (by omega)).mono ?_
      rintro e w4 ⟨d, hd, hdz, rfl, hc4, hg4⟩
      have hg4' := hg3'.trans hg4
      have hs4 := hg4.size
      have hI4 := All.step hg4 hI3 ⟨fun g' e => .inl (by injection e with e; omega), trivial⟩
      clear hI3
      have hFL := Lib.hid (fill_ent s d hd)
      have hE4 : Els w4 w4.heap.size 33 p l.length (l.map entC) := Els.of (hI4.at_ 0 rfl) (ents_len hgl.each) (by rw [List.length_map])
      have hput := Put_good w4 w4.heap.size p l.length c l ⟨s, d⟩ hgl hE4 ⟨hd, Nat.le_trans hsz (by decide)⟩ hsp hdz rfl (by omega) (Nat.le_refl _)
      clear hE4
      have wj : IntKind.i64.wrap ((j : Int) - 1) = ((j - 1 : Nat) : Int) := by rw [IntWalk.i64_in _ (by omega)]; omega
      go_wp2_with (first
        | (go_at_call 23; refine hput.mono ?_; clear hput; rintro e w5 ⟨l5, hg5, hl5, A5, c5, rfl, ho5, hb5⟩)
        | (refine wl_build rfl 50 [(0, .tmp 17), (1, .tmp 19)] rfl _ _ #[(0, 1), (1, 32)] (entC ⟨s, d⟩).toArray zero_ent Tryd.underlying50 (fun w => by kernel_rfl) ?_ ?_; exact hFL.out))
      have hs5 := hb5.size
      refine ⟨⟨l5, A5, c5, m + m3 + 1, j - 1, by omega, by omega, rfl, rfl, hg5, ho5.less (by omega), ?_, hg4'.trans (grown_weaken (grown_of_below hb5) _)⟩, by simp [intOf]; omega⟩
      rw [show at_ + 1 + (m + m3 + 1) = at_ + 1 + m + m3 + 1 from by omega]
      exact Cells.below hc4 hb5 (by omega)
    · obtain rfl : j = 0 := by omega
      have d1 : decide ((0 : Int) < ((0 : Nat) : Int)) = false := by simp
      go_wp2_with fail
      go_ret
      exact ⟨l, p, c, m, by omega, by omega, rfl, hgl, hown, hcr, hgr⟩
end Go.Proofs.YtipepcjiogifaaaDoor
set_option linter.unusedSimpArgs false
set_option linter.unusedVariables false
namespace Go.Proofs.YtipepcjiogifaaaDoor
open Go Go.RowKit Go.Adm

end Go.Proofs.YtipepcjiogifaaaDoor
set_option linter.unusedSimpArgs false
set_option linter.unusedVariables false
set_option maxRecDepth 100000
namespace Go.Adm
open Go Go.RowKit
theorem own_ne_cells {w : World} {base size n c g : Nat} {e t : TypeId} {A : Option Addr} {xs cs : List Value} (h : Own w base e size A n c xs) (hc : Cells w g t cs) (hne : e ≠ t) : (Value.slice A n c).ownBlock ≠ some g := fun hg => by
  rcases h.2 with ⟨h2, _⟩ | ⟨g', cap, cur, hv, _, hh, _⟩
  · rw [h2] at hg; cases hg
  · rw [hv] at hg
    injection hg with hg
    simp only at hg
    rw [hg, show w.heap[g]? = _ from hc] at hh
    injection hh with hh
    injection hh with _ hh
    exact hne hh.symm
theorem own_ne_own {w : World} {base size n c base' size' n' c' g : Nat} {e t : TypeId} {A A' : Option Addr} {xs xs' : List Value} (h : Own w base e size A n c xs) (h' : Own w base' t size' A' n' c' xs') (hne : e ≠ t) (hg' : (Value.slice A' n' c').ownBlock = some g) : (Value.slice A n c).ownBlock ≠ some g := fun hg => by
  rcases h.2 with ⟨h2, _⟩ | ⟨g1, cap, cur, hv, _, hh, _⟩
  · rw [h2] at hg; cases hg
  · rcases h'.2 with ⟨h2, _⟩ | ⟨g2, cap', cur', hv', _, hh', _⟩
    · rw [h2] at hg'; cases hg'
    · rw [hv] at hg
      rw [hv'] at hg'
      injection hg with hg
      injection hg' with hg'
      simp only at hg hg'
      rw [hg] at hh
      rw [hg', hh] at hh'
      injection hh' with hh'
      injection hh' with _ hh'
      exact hne hh'
/-- all blocks of before are kept, but one -/
def keptG (w : World) (gt : Nat) : Res := .nest 0 0 1 none 0 0 [] 0 (fun b => b < w.heap.size ∧ b ≠ gt) (fun W => ∀ b, b < w.heap.size → b ≠ gt → W.heap[b]? = w.heap[b]?)
theorem keptG.of {w W : World} {gt : Nat} (h : w.grownBy W (some gt)) : (keptG w gt).ok W := by
  refine ⟨Own.nil _ _ _ _, fun b hb hne => h.block b hb (fun e => hne (Option.some.inj e)), fun w1 w2 hs hbk hi b hb hne => ?_, fun b hb => ⟨Nat.zero_le _, Nat.lt_of_lt_of_le hb.1 h.size⟩, fun b hb => ?_⟩
  · have h1 := hi b hb hne
    refine (hbk b (.inr ⟨hb, hne⟩) ?_).trans h1
    rcases Nat.lt_or_ge b w1.heap.size with h2 | h2
    · exact h2
    · rw [Array.getElem?_eq_none h2, Array.getElem?_eq_getElem hb] at h1
      cases h1
  · cases hb
theorem keptG.apart {w : World} {gt g : Nat} (h : g = gt ∨ w.heap.size ≤ g) : Res.apart (some g) (keptG w gt) := fun g' e => by
  injection e with e
  subst e
  refine ⟨Nat.zero_le _, .inr ⟨fun h => (by cases h), fun hf => ?_⟩⟩
  rcases h with h | h
  · exact hf.2 h
  · have := hf.1; omega
theorem keptG.grown {w W : World} {gt : Nat} (hk : (Res.kept w gt).ok W) (h : (keptG w gt).ok W) : w.grownBy W (some gt) :=
  ⟨hk.1.os, hk.1.tape, hk.1.output, hk.1.size, fun k hlt hne => Nest.inn h k hlt (fun e => hne (by rw [e]))⟩
def linkZ : List Value := [.string ByteArray.empty, .slice none 0 0, .slice none 0 0]
theorem fill_link (s : ByteArray) (a b : Value) (ha : a.oneCell' = true) (hb : b.oneCell' = true) : Instr.fill (#[(0, 1), (1, 1), (2, 1)][·]?) linkZ.toArray [(0, .string s), (1, a), (2, b)] = some #[.string s, a, b] := by
  have h1 : ∀ v : Value, v.oneCell' = true → v.cells = [v].toArray := fun v hv => by cases v <;> first | rfl | cases hv
  refine (fill_step (off := 0) (size := 1) (es := [.string s]) (pre := []) (old := [.string ByteArray.empty]) (post := [.slice none 0 0, .slice none 0 0]) rfl rfl rfl rfl rfl rfl).trans ?_
  refine (fill_step (off := 1) (size := 1) (es := [a]) (pre := [.string s]) (old := [.slice none 0 0]) (post := [.slice none 0 0]) rfl rfl rfl rfl (h1 a ha) rfl).trans ?_
  refine (fill_step (off := 2) (size := 1) (es := [b]) (pre := [.string s, a]) (old := [.slice none 0 0]) (post := []) rfl rfl rfl rfl (h1 b hb) rfl).trans ?_
  rfl
end Go.Adm
namespace Go.Proofs.YtipepcjiogifaaaDoor
open Go Go.RowKit Go.Adm
def tapeC (gt : Nat) (A : Option Addr) (nl cl at_ : Nat) : Res := .cells gt 27 [.slice A nl cl, .int .i64 (at_ : Int)]
end Go.Proofs.YtipepcjiogifaaaDoor

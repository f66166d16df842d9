/- Choices from a tape: Next, Pick, Sum. -/
import Derived.Test.YtieobkgdkiahbaaDoorSnapMem
set_option linter.unusedSimpArgs false
set_option linter.unusedVariables false
namespace Go.Adm
open Go Go.RowKit
def iv (x : Int) : Value := .int .i64 x
theorem rem_ok (v : Int) (n : Nat) (hn : 1 ≤ n) : -(n : Int) < v.tmod n ∧ v.tmod n < n := ⟨Int.lt_tmod_of_pos v (by omega), Int.tmod_lt_of_pos v (by omega)⟩
theorem grown_dset (w : World) (n : Nat) (p : Addr) (u : Value) : w.grownBy ((w.drewN n).setCell p u) (some p.block) := by
  have h := grown_setCell (w.drewN n) p u
  exact ⟨h.os, h.tape, h.output, h.size, h.block⟩
end Go.Adm
namespace Go.Proofs.YtieobkgdkiahbaaDoor
open Go Go.RowKit Go.Adm

set_option maxRecDepth 100000 in
set_option maxHeartbeats 1600000 in
theorem Next_any (w : World) (gt B : Nat) (A : Option Addr) (nl cl at_ n : Nat) (L : List Int) (hc : Cells w gt 35 [.slice A nl cl, .int .i64 at_]) (hL : Rd w B 1 A nl (L.map iv)) (hB : B ≤ gt) (hn : 1 ≤ n) (hn2 : n ≤ 1000) (hat : at_ ≤ 1000000) :
    Calls Tryd.prog 51 #[.pointer (some ⟨gt, 0, none⟩), .int .i64 n] w fun e w' => ∃ k : Nat, k < n ∧ e = .returned (.int .i64 k) ∧ Cells w' gt 35 [.slice A nl cl, .int .i64 ((at_ + 1 : Nat) : Int)] ∧ w.grownBy w' (some gt) := by
  have c0 : w.cell? ⟨gt, 0, none⟩ = some (.slice A nl cl) := Cells.cell hc (i := 0) (by simp)
  have c1 : w.cell? ⟨gt, 1, none⟩ = some (.int .i64 at_) := Cells.cell hc (i := 1) (by simp)
  have f1 : w.frozen? ⟨gt, 1, none⟩ = false := Cells.frozen hc 1
  have hll := hL.len
  rw [List.length_map] at hll
  have e1 : IntKind.i64.wrap ((at_ : Int) * 7) = (at_ : Int) * 7 := IntWalk.i64_in _ (by omega)
  have e2 : IntKind.i64.wrap ((at_ : Int) * 7 + 3) = (at_ : Int) * 7 + 3 := IntWalk.i64_in _ (by omega)
  have e3 : IntKind.i64.wrap ((at_ : Int) + 1) = (at_ : Int) + 1 := IntWalk.i64_in _ (by omega)
  have d0 : decide ((n : Int) < 1) = false := by simp; omega
  have hn0 : ¬ (n : Int) = 0 := by omega
  have hfin : ∀ v : Int, ∃ k : Nat, k < n ∧ (v.tmod n + n).tmod n = (k : Int) ∧ IntKind.i64.wrap (v.tmod n) = v.tmod n ∧ IntKind.i64.wrap (v.tmod n + n) = v.tmod n + n ∧ IntKind.i64.wrap ((v.tmod n + n).tmod n) = (v.tmod n + n).tmod n := fun v => by
    obtain ⟨h1, h2⟩ := rem_ok v n hn
    have h3 : (v.tmod n + n).tmod n = (v.tmod n + n) % n := Int.tmod_eq_emod_of_nonneg (by omega)
    have h4 : 0 ≤ (v.tmod n + n) % n := Int.emod_nonneg _ (by omega)
    have h5 : (v.tmod n + n) % n < n := Int.emod_lt_of_pos _ (by omega)
    refine ⟨((v.tmod n + n) % n).toNat, by omega, by rw [h3]; omega, IntWalk.i64_in _ (by omega), IntWalk.i64_in _ (by omega), ?_⟩
    rw [h3]
    exact IntWalk.i64_in _ (by omega)
  by_cases hlt : at_ < nl
  · have d1 : decide ((at_ : Int) < (nl : Int)) = true := by simp; omega
    obtain ⟨ad, v, rfl, hadB, hv, hcell⟩ := hL.cell (k := at_) hlt
    have hv' : ∃ x : Int, v = .int .i64 x := by
      rw [List.getElem?_map] at hv
      cases hq : L[at_]? with
      | none => rw [hq] at hv; cases hv
      | some x => rw [hq] at hv; injection hv with hv; exact ⟨x, hv.symm⟩
    obtain ⟨x, rfl⟩ := hv'
    obtain ⟨k, hk, g1, g2, g3, g4⟩ := hfin x
    have wk0 : (0 : Int) ≤ (at_ : Int) := by omega
    have wk1 : (at_ : Int) < (nl : Int) := by omega
    have wk2 : ((at_ : Int)).toNat = at_ := by omega
    go_enter Tryd.func51, Tryd.ntmps51
    go_wp2_with fail
    go_quiet (fail)
    go_wp2_with fail
    go_quiet (fail)
    go_wp2_with fail
    go_ret
    refine ⟨k, hk, rfl, ?_, ?_⟩
    · exact Cells.store (hc.drewN _) 1 _
    · exact grown_dset w _ ⟨gt, 1, none⟩ _
  · have d1 : decide ((at_ : Int) < (nl : Int)) = false := by simp; omega
    obtain ⟨y, hy⟩ : ∃ y : Int, y = (at_ : Int) * 7 + 3 := ⟨_, rfl⟩
    have e2' : IntKind.i64.wrap ((at_ : Int) * 7 + 3) = y := e2.trans hy.symm
    clear e2 hy
    obtain ⟨k, hk, g1, g2, g3, g4⟩ := hfin y
    go_enter Tryd.func51, Tryd.ntmps51
    go_wp2_with fail
    go_quiet (fail)
    go_wp2_with fail
    go_ret
    refine ⟨k, hk, rfl, ?_, ?_⟩
    · exact Cells.store (hc.drewN _) 1 _
    · exact grown_dset w _ ⟨gt, 1, none⟩ _
/-- what a choice leaves of the tape -/
def TapeTo (gt : Nat) (A : Option Addr) (nl cl at_ : Nat) (w w' : World) : Prop := Cells w' gt 35 [.slice A nl cl, .int .i64 (at_ : Int)] ∧ w.grownBy w' (some gt)
set_option maxRecDepth 100000 in
set_option maxHeartbeats 1600000 in
theorem Pick_any (w : World) (gt B : Nat) (A : Option Addr) (nl cl at_ : Nat) (L : List Int) (hc : Cells w gt 35 [.slice A nl cl, .int .i64 at_]) (hL : Rd w B 1 A nl (L.map iv)) (hB : B ≤ gt) (hat : at_ ≤ 1000000)
    (ss : List ByteArray) (gs cs : Nat) (t : TypeId) (hs : Cells w gs t (ss.map sv)) (hgs : gs ≠ gt) (hn : 1 ≤ ss.length) (hn2 : ss.length ≤ 1000) (n : Nat) (hnn : n = ss.length) :
    Calls Tryd.prog 63 #[.pointer (some ⟨gt, 0, none⟩), .slice (some ⟨gs, 0, none⟩) n cs] w fun e w' => ∃ s ∈ ss, e = .returned (.string s) ∧ TapeTo gt A nl cl (at_ + 1) w w' := by
  subst hnn
  go_enter Tryd.func63, Tryd.ntmps63
  go_wp2_with fail
  refine (Next_any w gt B A nl cl at_ ss.length L hc hL hB hn hn2 hat).mono ?_
  rintro e w1 ⟨k, hk, rfl, hc1, hg1⟩
  have hs1 : Cells w1 gs t (ss.map sv) := hs.grown hg1 (fun e => hgs (Option.some.inj e))
  have c1 : w1.cell? ⟨gs, k, none⟩ = some (.string ss[k]) := by
    have := Cells.cell hs1 (i := k) (by rw [List.length_map]; exact hk)
    rw [this]; simp [sv]
  have hm := List.getElem_mem hk
  generalize ss[k] = s at *
  have wk0 : (0 : Int) ≤ (k : Int) := by omega
  have wk1 : (k : Int) < (ss.length : Int) := by omega
  have wk2 : ((k : Int)).toNat = k := by omega
  go_wp2_with fail
  go_ret
  exact ⟨s, hm, rfl, hc1, hg1⟩
set_option maxRecDepth 100000 in
set_option maxHeartbeats 1600000 in
theorem Sum_any (w : World) (gt B : Nat) (A : Option Addr) (nl cl at_ : Nat) (L : List Int) (hc : Cells w gt 35 [.slice A nl cl, .int .i64 at_]) (hL : Rd w B 1 A nl (L.map iv)) (hB : B ≤ gt) (hat : at_ ≤ 1000000) :
    Calls Tryd.prog 54 #[.pointer (some ⟨gt, 0, none⟩)] w fun e w' => ∃ d : List UInt8, d.length = 32 ∧ d ≠ z32 ∧ e = .returned (.agg (d.map bv).toArray) ∧ TapeTo gt A nl cl (at_ + 1) w w' := by
  have hlt := Cells.lt hc
  go_enter Tryd.func54, Tryd.ntmps54
  go_wp2_with fail
  refine (Next_any _ gt B A nl cl at_ 6 L (hc.alloc _) (hL.alloc (by omega) _) hB (by omega) (by omega) hat).mono ?_
  rintro e w1 ⟨k, hk, rfl, hc1, hg1⟩
  have hbx : Cells w1 w.heap.size 58 (List.replicate 32 (Value.int .u8 0)) := (Cells.new' w 58 _ rfl rfl).grown hg1 (fun e => by have := Option.some.inj e; omega)
  have hAll : All w1 [.cells w.heap.size 58 (List.replicate 32 (Value.int .u8 0)), .cells gt 35 [.slice A nl cl, .int .i64 ((at_ + 1 : Nat) : Int)]] := ⟨hbx, hc1, trivial⟩
  have hg1' : w.grownBy w1 (some gt) := ⟨hg1.os, hg1.tape, hg1.output, by have := hg1.size; simp at this; omega, fun k hk hn => (hg1.block k (by simp; omega) hn).trans (Below.heap_alloc w _ k hk)⟩
  have hkk : k = 0 ∨ k = 1 ∨ k = 2 ∨ k = 3 ∨ k = 4 ∨ k = 5 := by omega
  obtain ⟨d, hd32, hdz, hdk⟩ : ∃ d : List UInt8, d.length = 32 ∧ d ≠ z32 ∧ d = UInt8.ofNat (k + 1) :: List.replicate 31 0 := by
    refine ⟨_, by simp, ?_, rfl⟩
    rcases hkk with rfl | rfl | rfl | rfl | rfl | rfl <;> decide
  rcases hkk with rfl | rfl | rfl | rfl | rfl | rfl
  all_goals
    go_wp2_with (refine wl_store_all rfl 58 (.tmp 2) (.tmp 7) rfl w.heap.size 58 _ (d.map bv) rfl (by rw [hdk]; rfl) hbx (by rw [List.length_map, hd32]; rfl) (by rw [List.length_map, hd32]; kernel_rfl) (bv_one _) ?_; intro w2 hw2 hg2 hs2)
    have hc2 := hc1.grown hg2 (fun e => by have := Option.some.inj e; omega)
    have hsz1 := hg1'.size
    refine bodyPost_ret (results_cell_row rfl _ _ w.heap.size 58 (d.map bv).toArray (0, 0) _ rfl hw2 Tryd.underlying58 rfl (by rw [List.size_toArray, List.length_map, hd32]; kernel_rfl)) rfl ?_
    exact ⟨d, hd32, hdz, rfl, hc2, ⟨hg2.os.trans hg1'.os, hg2.tape.trans hg1'.tape, hg2.output.trans hg1'.output, Nat.le_trans hsz1 hg2.size, fun k hk hn => (hg2.block k (by omega) (fun e => by have := Option.some.inj e; omega)).trans (hg1'.block k hk hn)⟩⟩
end Go.Proofs.YtieobkgdkiahbaaDoor

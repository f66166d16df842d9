/- A list of entries made from a tape. -/
import Derived.Test.YtieobkgdkiahbaaDoorTape5
set_option linter.unusedSimpArgs false
set_option linter.unusedVariables false
namespace Go.Adm
open Go Go.RowKit
theorem grown_weaken {w w' : World} (h : w.grownBy w' none) (row : Option Nat) : w.grownBy w' row := ⟨h.os, h.tape, h.output, h.size, fun k hk _ => h.block k hk (by simp)⟩
end Go.Adm
namespace Go.Proofs.YtieobkgdkiahbaaDoor
open Go Go.RowKit Go.Adm

/-- a list in order, owned; the tape at a place -/
def ListAt (w : World) (gt : Nat) (A : Option Addr) (nl cl : Nat) (m : Nat) (l : List E) (p : Option Addr) (c : Nat) (W : World) : Prop :=
  GoodL l ∧ Go.Adm.Own W w.heap.size 72 33 p l.length c (l.map entC).flatten ∧ TapeTo gt A nl cl m w W

set_option maxRecDepth 100000 in
set_option maxHeartbeats 3200000 in
/-- a list of at most so many entries -/
theorem TSnap_any (w : World) (gt B : Nat) (A : Option Addr) (nl cl at_ : Nat) (L : List Int) (hc : Cells w gt 35 [.slice A nl cl, .int .i64 at_]) (hL : Rd w B 1 A nl (L.map iv)) (hB : B ≤ gt) (hat : at_ ≤ 100000) (most : Nat) (hm : most ≤ 100) :
    Calls Tryd.prog 16 #[.pointer (some ⟨gt, 0, none⟩), .int .i64 most] w fun e w' => ∃ l p c m, l.length ≤ most ∧ m ≤ 5 * most ∧ e = .returned (.slice p l.length c) ∧ ListAt w gt A nl cl (at_ + 1 + m) l p c w' := by
  have hlt := Cells.lt hc
  have w1 : IntKind.i64.wrap ((most : Int) + 1) = ((most + 1 : Nat) : Int) := by rw [IntWalk.i64_in _ (by omega)]; omega
  go_enter Tryd.func16, Tryd.ntmps16
  go_wp2_with fail
  refine (Next_any w gt B A nl cl at_ (most + 1) L hc hL hB (by omega) (by omega) (by omega)).mono ?_
  rintro e w1 ⟨k, hk, rfl, hc1, hg1⟩
  have HL : Hid (∀ W, w.grownBy W (some gt) → Rd W B 1 A nl (L.map iv)) := Lib.hid (fun W hg => hL.keep fun p hp => World.cell?_of_block (hg.block p.block (by omega) (fun e => by have := Option.some.inj e; omega)))
  clear hc hL
  go_wp2_with fail
  go_loopw [5, 6] (fun v i wr => ∃ (l : List E) (p : Option Addr) (c m j : Nat), j + l.length ≤ most ∧ m + 5 * j ≤ 5 * most ∧ v = .slice p l.length c ∧ i = .int .i64 j ∧ ListAt w gt A nl cl (at_ + 1 + m) l p c wr) (fun _ i _ => (intOf i).toNat)
  case atStart => exact ⟨[], none, 0, 0, k, by simp; omega, by omega, rfl, rfl, GoodL.nil, Go.Adm.Own.nil _ _ _ _, hc1, hg1⟩
  case round =>
    obtain ⟨l, p, c, m, j, hjl, hmj, rfl, rfl, hgl, hown, hcr, hgr⟩ := hrel
    have hsr := hgr.size
    by_cases hj : 0 < j
    · have d1 : decide (0 < (j : Int)) = true := by simp; omega
      have d2 : decide (0 < j) = true := by simp; omega
      go_wp2_with fail
      refine (TPath_any _ gt B A nl cl (at_ + 1 + m) L hcr (HL.out _ hgr) hB (by omega)).mono ?_
      rintro e w3 ⟨s, m3, hm3, hsp, hsz, rfl, hc3, hg3⟩
      have hg3' := hgr.trans hg3
      have hs3 := hg3.size
      have hI3 : All w3 [.own w.heap.size 72 33 p l.length c (l.map entC).flatten] := All.step hg3 (⟨hown, trivial⟩ : All wr [.own w.heap.size 72 33 p l.length c (l.map entC).flatten]) ⟨fun g' e => .inl (by injection e with e; omega), trivial⟩
      clear hown
      go_wp2_with fail
      refine (Sum_any _ gt B A nl cl (at_ + 1 + m + m3) L hc3 (HL.out _ hg3') hB (by omega)).mono ?_
      rintro e w4 ⟨d, hd, hdz, rfl, hc4, hg4⟩
      have hg4' := hg3'.trans hg4
      have hs4 := hg4.size
      have hI4 := All.step hg4 hI3 ⟨fun g' e => .inl (by injection e with e; omega), trivial⟩
      clear hI3
      have hFL := Lib.hid (fill_ent s d hd)
      have hE4 : Els w4 w4.heap.size 33 p l.length (l.map entC) := Els.of (hI4.at_ 0 rfl) (ents_len hgl.each) (by rw [List.length_map])
      have hput := Put_good w4 w4.heap.size p l.length c l ⟨s, d⟩ hgl hE4 ⟨hd, Nat.le_trans hsz (by decide)⟩ hsp hdz rfl (by omega) (Nat.le_refl _)
      clear hE4
      have wj : IntKind.i64.wrap ((j : Int) - 1) = ((j - 1 : Nat) : Int) := by rw [IntWalk.i64_in _ (by omega)]; omega
      go_wp2_with (first
        | (go_at_call 52; refine hput.mono ?_; clear hput; rintro e w5 ⟨l5, hg5, hl5, A5, c5, rfl, ho5, hb5⟩)
        | (refine wl_build rfl 72 [(0, .tmp 17), (1, .tmp 19)] rfl _ _ #[(0, 1), (1, 32)] (entC ⟨s, d⟩).toArray zero_ent Tryd.underlying72 (fun w => by kernel_rfl) ?_ ?_; exact hFL.out))
      have hs5 := hb5.size
      refine ⟨⟨l5, A5, c5, m + m3 + 1, j - 1, by omega, by omega, rfl, rfl, hg5, ho5.less (by omega), ?_, hg4'.trans (grown_weaken (grown_of_below hb5) _)⟩, by simp [intOf]; omega⟩
      rw [show at_ + 1 + (m + m3 + 1) = at_ + 1 + m + m3 + 1 from by omega]
      exact Cells.below hc4 hb5 (by omega)
    · obtain rfl : j = 0 := by omega
      have d1 : decide ((0 : Int) < ((0 : Nat) : Int)) = false := by simp
      go_wp2_with fail
      go_ret
      exact ⟨l, p, c, m, by omega, by omega, rfl, hgl, hown, hcr, hgr⟩
end Go.Proofs.YtieobkgdkiahbaaDoor

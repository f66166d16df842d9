/- A list of entries edited from a tape. -/
import Derived.Test.YtieobkgdkiahbaaDoorTape6
set_option linter.unusedSimpArgs false
set_option linter.unusedVariables false
namespace Go.Proofs.YtieobkgdkiahbaaDoor
open Go Go.RowKit Go.Adm

set_option maxRecDepth 100000 in
set_option maxHeartbeats 3200000 in
theorem TEdit_any (w : World) (gt B : Nat) (A : Option Addr) (nl cl at_ : Nat) (L : List Int) (hc : Cells w gt 35 [.slice A nl cl, .int .i64 at_]) (hL : Rd w B 1 A nl (L.map iv)) (hB : B ≤ gt) (hat : at_ ≤ 200000)
    (p0 : Option Addr) (c0 : Nat) (l0 : List E) (hgl0 : GoodL l0) (hown0 : Go.Adm.Own w (gt + 1) 72 33 p0 l0.length c0 (l0.map entC).flatten) (hn0 : l0.length ≤ 100) :
    Calls Tryd.prog 17 #[.pointer (some ⟨gt, 0, none⟩), .slice p0 l0.length c0] w fun e w' => ∃ l p c m, l.length ≤ l0.length + 3 ∧ m ≤ 18 ∧ e = .returned (.slice p l.length c) ∧ GoodL l ∧ Go.Adm.Own w' (gt + 1) 72 33 p l.length c (l.map entC).flatten ∧ TapeTo gt A nl cl (at_ + 1 + m) w w' := by
  have hlt := Cells.lt hc
  go_enter Tryd.func17, Tryd.ntmps17
  go_wp2_with fail
  refine (Next_any w gt B A nl cl at_ 4 L hc hL hB (by omega) (by omega) (by omega)).mono ?_
  rintro e w1 ⟨k, hk, rfl, hc1, hg1⟩
  have HL : Hid (∀ W, w.grownBy W (some gt) → Rd W B 1 A nl (L.map iv)) := Lib.hid (fun W hg => hL.keep fun p hp => World.cell?_of_block (hg.block p.block (by omega) (fun e => by have := Option.some.inj e; omega)))
  have hI1 : All w1 [.own (gt + 1) 72 33 p0 l0.length c0 (l0.map entC).flatten] := All.step hg1 (⟨hown0, trivial⟩ : All w [.own (gt + 1) 72 33 p0 l0.length c0 (l0.map entC).flatten]) ⟨fun g' e => .inl (by injection e with e; omega), trivial⟩
  have hown1 := hI1.1
  clear hc hL hown0 hI1
  go_wp2_with fail
  go_loopw [1, 5] (fun v i wr => ∃ (l : List E) (p : Option Addr) (c m j : Nat), l.length + j ≤ l0.length + 3 ∧ m + 6 * j ≤ 18 ∧ j ≤ 3 ∧ v = .slice p l.length c ∧ i = .int .i64 j ∧ GoodL l ∧ Go.Adm.Own wr (gt + 1) 72 33 p l.length c (l.map entC).flatten ∧ TapeTo gt A nl cl (at_ + 1 + m) w wr) (fun _ i _ => (intOf i).toNat)
  case atStart => exact ⟨l0, p0, c0, 0, k, by omega, by omega, by omega, rfl, rfl, hgl0, hown1, hc1, hg1⟩
  case round =>
    obtain ⟨l, p, c, m, j, hjl, hmj, hj3, rfl, rfl, hgl, hown, hcr, hgr⟩ := hrel
    have hsr := hgr.size
    clear hown1 hc1
    by_cases hj : 0 < j
    · have d1 : decide (0 < (j : Int)) = true := by simp; omega
      have d2 : decide (0 < j) = true := by simp; omega
      have wj : IntKind.i64.wrap ((j : Int) - 1) = ((j - 1 : Nat) : Int) := by rw [IntWalk.i64_in _ (by omega)]; omega
      go_wp2_with fail
      refine (Next_any wr gt B A nl cl (at_ + 1 + m) 3 L hcr (HL.out _ hgr) hB (by omega) (by omega) (by omega)).mono ?_
      rintro e w2 ⟨k2, hk2, rfl, hc2, hg2⟩
      have hg2' := hgr.trans hg2
      have hs2 := hg2.size
      have hI2 : All w2 [.own (gt + 1) 72 33 p l.length c (l.map entC).flatten] := All.step hg2 (⟨hown, trivial⟩ : All wr [.own (gt + 1) 72 33 p l.length c (l.map entC).flatten]) ⟨fun g' e => .inl (by injection e with e; omega), trivial⟩
      clear hown hcr
      by_cases hk0 : k2 = 0
      · have dk : decide ((k2 : Int) = 0) = true := by simp; omega
        have dk2 : decide (k2 = 0) = true := by simp; omega
        by_cases hl0 : 0 < l.length
        · have dl : decide ((0 : Int) < (l.length : Int)) = true := by simp; omega
          have dl2 : decide (0 < l.length) = true := by simp; omega
          have hcap := (hI2.at_ 0 rfl : Go.Adm.Own w2 (gt + 1) 72 33 p l.length c (l.map entC).flatten).cap
          go_wp2_with fail
          refine (Next_any w2 gt B A nl cl (at_ + 1 + m + 1) l.length L hc2 (HL.out _ hg2') hB (by omega) (by omega) (by omega)).mono ?_
          rintro e w3 ⟨k3, hk3, rfl, hc3, hg3⟩
          have hg3' := hg2'.trans hg3
          have hs3 := hg3.size
          have hI3 := All.step hg3 hI2 ⟨fun g' e => .inl (by injection e with e; omega), trivial⟩
          clear hI2
          have hE3 : Els w3 w3.heap.size 33 p l.length (l.map entC) := Els.of (hI3.at_ 0 rfl) (ents_len hgl.each) (by rw [List.length_map])
          have hdrop := Drop_any w3 w3.heap.size p l.length c k3 l hE3 hgl.each rfl (by omega) hcap.1 hk3 (Nat.le_refl _)
          clear hE3
          go_wp2_with (go_at_call 55; refine hdrop.mono ?_; clear hdrop; rintro e w5 ⟨A5, c5, rfl, ho5, hb5⟩)
          have hs5 := hb5.size
          have hl5 : (l.eraseIdx k3).length ≤ l.length := (List.eraseIdx_sublist _ _).length_le
          refine ⟨⟨l.eraseIdx k3, A5, c5, m + 2, j - 1, by omega, by omega, by omega, rfl, rfl, hgl.erase k3, ho5.less (by omega), ?_, hg3'.trans (grown_weaken (grown_of_below hb5) _)⟩, by simp [intOf]; omega⟩
          rw [show at_ + 1 + (m + 2) = at_ + 1 + m + 1 + 1 from by omega]
          exact Cells.below hc3 hb5 (by omega)
        · have dl : decide ((0 : Int) < (l.length : Int)) = false := decide_eq_false (by omega)
          have dl2 : decide (0 < l.length) = false := decide_eq_false (by omega)
          go_wp2_with fail
          refine (TPath_any _ gt B A nl cl (at_ + 1 + m + 1) L hc2 (HL.out _ hg2') hB (by omega)).mono ?_
          rintro e w3 ⟨s, m3, hm3, hsp, hsz, rfl, hc3, hg3⟩
          have hg3' := hg2'.trans hg3
          have hs3 := hg3.size
          have hI3 := All.step hg3 hI2 ⟨fun g' e => .inl (by injection e with e; omega), trivial⟩
          clear hI2
          go_wp2_with fail
          refine (Sum_any _ gt B A nl cl (at_ + 1 + m + 1 + m3) L hc3 (HL.out _ hg3') hB (by omega)).mono ?_
          rintro e w4 ⟨d, hd, hdz, rfl, hc4, hg4⟩
          have hg4' := hg3'.trans hg4
          have hs4 := hg4.size
          have hI4 := All.step hg4 hI3 ⟨fun g' e => .inl (by injection e with e; omega), trivial⟩
          clear hI3
          have hFL := Lib.hid (fill_ent s d hd)
          have hE4 : Els w4 w4.heap.size 33 p l.length (l.map entC) := Els.of (hI4.at_ 0 rfl) (ents_len hgl.each) (by rw [List.length_map])
          have hput := Put_good w4 w4.heap.size p l.length c l ⟨s, d⟩ hgl hE4 ⟨hd, Nat.le_trans hsz (by decide)⟩ hsp hdz rfl (by omega) (Nat.le_refl _)
          clear hE4
          go_wp2_with (first
            | (go_at_call 52; refine hput.mono ?_; clear hput; rintro e w5 ⟨l5, hg5, hl5, A5, c5, rfl, ho5, hb5⟩)
            | (refine wl_build rfl 72 [(0, .tmp 28), (1, .tmp 30)] rfl _ _ #[(0, 1), (1, 32)] (entC ⟨s, d⟩).toArray zero_ent Tryd.underlying72 (fun w => by kernel_rfl) ?_ ?_; exact hFL.out))
          have hs5 := hb5.size
          refine ⟨⟨l5, A5, c5, m + m3 + 2, j - 1, by omega, by omega, by omega, rfl, rfl, hg5, ho5.less (by omega), ?_, hg4'.trans (grown_weaken (grown_of_below hb5) _)⟩, by simp [intOf]; omega⟩
          rw [show at_ + 1 + (m + m3 + 2) = at_ + 1 + m + 1 + m3 + 1 from by omega]
          exact Cells.below hc4 hb5 (by omega)
      · have dk : decide ((k2 : Int) = 0) = false := by simp; omega
        have dk2 : decide (k2 = 0) = false := by simp; omega
        go_wp2_with fail
        refine (TPath_any _ gt B A nl cl (at_ + 1 + m + 1) L hc2 (HL.out _ hg2') hB (by omega)).mono ?_
        rintro e w3 ⟨s, m3, hm3, hsp, hsz, rfl, hc3, hg3⟩
        have hg3' := hg2'.trans hg3
        have hs3 := hg3.size
        have hI3 := All.step hg3 hI2 ⟨fun g' e => .inl (by injection e with e; omega), trivial⟩
        clear hI2
        go_wp2_with fail
        refine (Sum_any _ gt B A nl cl (at_ + 1 + m + 1 + m3) L hc3 (HL.out _ hg3') hB (by omega)).mono ?_
        rintro e w4 ⟨d, hd, hdz, rfl, hc4, hg4⟩
        have hg4' := hg3'.trans hg4
        have hs4 := hg4.size
        have hI4 := All.step hg4 hI3 ⟨fun g' e => .inl (by injection e with e; omega), trivial⟩
        clear hI3
        have hFL := Lib.hid (fill_ent s d hd)
        have hE4 : Els w4 w4.heap.size 33 p l.length (l.map entC) := Els.of (hI4.at_ 0 rfl) (ents_len hgl.each) (by rw [List.length_map])
        have hput := Put_good w4 w4.heap.size p l.length c l ⟨s, d⟩ hgl hE4 ⟨hd, Nat.le_trans hsz (by decide)⟩ hsp hdz rfl (by omega) (Nat.le_refl _)
        clear hE4
        go_wp2_with (first
          | (go_at_call 52; refine hput.mono ?_; clear hput; rintro e w5 ⟨l5, hg5, hl5, A5, c5, rfl, ho5, hb5⟩)
          | (refine wl_build rfl 72 [(0, .tmp 28), (1, .tmp 30)] rfl _ _ #[(0, 1), (1, 32)] (entC ⟨s, d⟩).toArray zero_ent Tryd.underlying72 (fun w => by kernel_rfl) ?_ ?_; exact hFL.out))
        have hs5 := hb5.size
        refine ⟨⟨l5, A5, c5, m + m3 + 2, j - 1, by omega, by omega, by omega, rfl, rfl, hg5, ho5.less (by omega), ?_, hg4'.trans (grown_weaken (grown_of_below hb5) _)⟩, by simp [intOf]; omega⟩
        rw [show at_ + 1 + (m + m3 + 2) = at_ + 1 + m + 1 + m3 + 1 from by omega]
        exact Cells.below hc4 hb5 (by omega)
    · obtain rfl : j = 0 := by omega
      have d1 : decide ((0 : Int) < ((0 : Nat) : Int)) = false := by simp
      go_wp2_with fail
      go_ret
      exact ⟨l, p, c, m, by omega, by omega, rfl, hgl, hown, hcr, hgr⟩
end Go.Proofs.YtieobkgdkiahbaaDoor

/- The tree. -/
import Derived.Test.YtlnbeglelhdjfaaKey11
set_option linter.unusedSimpArgs false
set_option linter.unusedVariables false
namespace Go.Adm
open Go Go.RowKit
def TreePost (seed : List UInt8) (h : Nat) (w : World) (e : Ending) (w' : World) : Prop :=
  ∃ A c vs, e = .returned (.slice A (h + 1) c) ∧ Rd w' w'.heap.size 1 A (h + 1) vs ∧ All2 (LvlAt w') vs (lvls 0 (leavesS seed h) h) ∧ Below w.heap.size w w'
/-- where the levels lie -/
def Fresh (lo : Nat) (A : Option Addr) (vs : List Value) : Prop := (∀ ad, A = some ad → lo ≤ ad.block) ∧ ∀ v ∈ vs, ∀ A n c, v = .slice A n c → ∀ ad, A = some ad → lo ≤ ad.block
def TreePost2 (seed : List UInt8) (h : Nat) (w : World) (e : Ending) (w' : World) : Prop :=
  ∃ A c vs, e = .returned (.slice A (h + 1) c) ∧ Rd w' w'.heap.size 1 A (h + 1) vs ∧ All2 (LvlAt w') vs (lvls 0 (leavesS seed h) h) ∧ Fresh w.heap.size A vs ∧ Below w.heap.size w w'
theorem Own.block_le {w : World} {base size n c : Nat} {e : TypeId} {A : Option Addr} {xs : List Value} (h : Go.Adm.Own w base e size A n c xs) : ∀ ad, A = some ad → base ≤ ad.block := fun ad e => by
  subst e
  exact (h.lt rfl).1
end Go.Adm
namespace Go.Proofs.Ytlnbeglelhdjfaa
open Go Go.RowKit Go.Adm

set_option maxRecDepth 100000 in
set_option maxHeartbeats 3200000 in
theorem tree_any2 (w : World) (seed : List UInt8) (h : Nat) (hs : seed.length = 16) (hh : h ≤ 6) :
    Calls Try.prog 27 #[.agg (seed.map bv).toArray, .int .i64 h] w (TreePost2 seed h w) := by
  have hR : All w [.kept w w.heap.size] := ⟨⟨Below.refl _ _, Nat.le_refl _⟩, trivial⟩
  have hsl := Lib.hid hs
  obtain ⟨hp1, hp2⟩ := pow_le64 h hh
  have hsh : wrap64 ((2 : Int) ^ h) = ((2 ^ h : Nat) : Int) := by
    have e1 : ((2 ^ h : Nat) : Int) = (2 : Int) ^ h := by simp
    have e2 : ((2 ^ h : Nat) : Int) ≤ 64 := by omega
    rw [← e1]
    exact IntWalk.wrap64_in ((2 ^ h : Nat) : Int) ⟨by omega, by omega⟩
  generalize hN : (2 : Nat) ^ h = N at *
  have HN := Lib.hid hN
  have HL := Lib.hid (leavesS_len seed h)
  rw [hN] at HL
  have HS := Lib.hid (leavesS_succ seed h)
  rw [hN] at HS
  clear hN
  clear hs
  go_enter Try.func27, Try.ntmps27
  go_upto_region 1 with (fail)
  refine wp_gen (hR.new (l := seed.map bv) _ 23 rfl rfl) ?_
  intro W hW
  have hI0 : All W [.own (w.heap.size + 1) 23 16 none 0 0 (hvs ((leavesS seed h).take 0)).flatten, .cells w.heap.size 23 (seed.map bv), .kept w w.heap.size] := ⟨Go.Adm.Own.nil _ _ _ _, hW⟩
  have hlW : w.heap.size < W.heap.size := Cells.lt hW.1
  clear hW
  go_wp2
  rw [hsh]
  go_loopw [5, 9] (fun v i wr => ∃ (k : Nat) (A' : Option Addr) (c' : Nat), k ≤ N ∧ i = .int .i64 k ∧ v = .slice A' k c' ∧ All wr [.own (w.heap.size + 1) 23 16 A' k c' (hvs ((leavesS seed h).take k)).flatten, .cells w.heap.size 23 (seed.map bv), .kept w w.heap.size] ∧ w.heap.size + 1 ≤ wr.heap.size) (fun _ i _ => N - (intOf i).toNat)
  case atStart => exact ⟨0, none, 0, by omega, rfl, rfl, hI0, hlW⟩
  case round =>
    obtain ⟨k, A', c', hk, rfl, rfl, hI, hsz⟩ := hrel
    by_cases hlt : k < N
    · have hM := Lib.hid (HS.out k hlt)
      have hp := Lib.hid (publicS_len seed k)
      go_wp2_with (refine wl_load_at rfl 23 (.tmp 2) rfl w.heap.size _ _ (hI.at_ 1 rfl) rfl _ Try.underlying23 rfl (by rw [List.length_map, hsl.out]; kernel_rfl) ?_)
      refine (Public_any wr seed k hsl.out).mono ?_
      rintro e w6 ⟨rfl, hb6⟩
      have hI6 := hI.call hb6
      have hs6 := hb6.size
      clear hI hb6
      generalize publicS seed k = x at *
      go_wp2_with (first | (refine wl_lit1 els_half rfl _ rfl (x.map bv) rfl (by rw [List.length_map, hp.out]) (by decide) ?_) | (at_builtin; refine wl_app_at els_half (hI6.alloc _) 0 rfl (.tmp 12) (.tmp 16) rfl (w.heap.size + 1) _ _ _ _ rfl rfl (w6.heap.size + 1) _ 1 1 (x.map bv) rfl (Rd.lit w6 (x.map bv).toArray _ 1 (by rw [List.size_toArray, List.length_map, hp.out])) (bv_one _) (by omega) (by simp; omega) (by intro g hg _; simp [Apart, Res.apart] <;> omega) ?_; intro A7 c7 w7 hI7 hs7))
      refine ⟨⟨k + 1, A7, c7, by omega, by go_num, rfl, ?_, by first | omega | (simp at hs7; omega)⟩, by simp [intOf]; omega⟩
      rw [hM.out, ← hvs_snoc]
      exact hI7
    · obtain rfl : k = N := by omega
      rw [List.take_of_length_le (by rw [HL.out]; omega)] at hI
      have hE : Els wr wr.heap.size 16 A' k (hvs (leavesS seed h)) := Els.of (hI.1 : Go.Adm.Own wr _ 23 16 A' k c' _) (hvs_each (leavesS_each seed h)) (by rw [hvs_len, HL.out])
      have hk2 := (hI.at_ 2 rfl).1
      have hlw := (hI.at_ 2 rfl).2
      have hfl := Go.Adm.Own.block_le hI.1
      go_wp2_with fail
      refine (above_any h 0 wr wr.heap.size A' k c' (leavesS seed h) hE (leavesS_each seed h) (Nat.le_refl _) HN.out.symm (by omega) (by decide) (by omega)).mono ?_
      rintro e w6 ⟨A6, c6, vs6, rfl, hab⟩
      go_wp2
      go_ret
      refine ⟨A6, c6, _, rfl, hab.own.rd, hab.lv, ⟨fun ad e => Nat.le_trans hlw (hab.own.block_le ad e), fun v hv A n c e ad ea => ?_⟩, hk2.trans (hab.kept.mono hlw)⟩
      rcases List.mem_cons.1 hv with h2 | h2
      · rw [h2] at e
        injection e with e1 _ _
        have := hfl ad (by rw [e1]; exact ea)
        omega
      · have := hab.fresh _ h2 _ _ _ e ad ea
        omega

theorem tree_any (w : World) (seed : List UInt8) (h : Nat) (hs : seed.length = 16) (hh : h ≤ 6) :
    Calls Try.prog 27 #[.agg (seed.map bv).toArray, .int .i64 h] w (TreePost seed h w) :=
  (tree_any2 w seed h hs hh).mono fun _ _ ⟨A, c, vs, e, h1, h2, _, h4⟩ => ⟨A, c, vs, e, h1, h2, h4⟩

end Go.Proofs.Ytlnbeglelhdjfaa

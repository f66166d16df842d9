/- Leaves and levels. -/
import Derived.Test.YtlnbeglelhdjfaaKey9
set_option linter.unusedSimpArgs false
set_option linter.unusedVariables false
namespace Go.Adm
open Go Go.RowKit
def leavesS (seed : List UInt8) (h : Nat) : List (List UInt8) := (List.range (2 ^ h)).map fun (i : Nat) => publicS seed i
theorem leavesS_len (seed : List UInt8) (h : Nat) : (leavesS seed h).length = 2 ^ h := by simp [leavesS]
theorem leavesS_each (seed : List UInt8) (h : Nat) : ∀ x ∈ leavesS seed h, x.length = 16 := by
  intro x hx
  obtain ⟨i, _, rfl⟩ := List.mem_map.1 hx
  exact publicS_len _ _
theorem leavesS_succ (seed : List UInt8) (h k : Nat) (hk : k < 2 ^ h) : (leavesS seed h).take (k + 1) = (leavesS seed h).take k ++ [publicS seed k] := by
  rw [List.take_succ_eq_append_getElem (by rw [leavesS_len]; exact hk)]
  simp [leavesS]
theorem pow_le64 (h : Nat) (hh : h ≤ 6) : 1 ≤ 2 ^ h ∧ 2 ^ h ≤ 64 := by
  have : h = 0 ∨ h = 1 ∨ h = 2 ∨ h = 3 ∨ h = 4 ∨ h = 5 ∨ h = 6 := by omega
  rcases this with rfl | rfl | rfl | rfl | rfl | rfl | rfl <;> decide
def LeavesPost (seed : List UInt8) (h : Nat) (tid : TypeId) (w : World) (e : Ending) (w' : World) : Prop := ∃ A c, e = .returned (.slice A (2 ^ h) c) ∧ Go.Adm.Own w' w.heap.size tid 16 A (2 ^ h) c (hvs (leavesS seed h)).flatten ∧ Below w.heap.size w w'
end Go.Adm
namespace Go.Proofs.Ytlnbeglelhdjfaa
open Go Go.RowKit Go.Adm

set_option maxRecDepth 100000 in
set_option maxHeartbeats 3200000 in
theorem leaves_any (w : World) (seed : List UInt8) (h : Nat) (hs : seed.length = 16) (hh : h ≤ 6) :
    Calls Try.prog 29 #[.agg (seed.map bv).toArray, .int .i64 h] w (LeavesPost seed h 23 w) := by
  have hR : All w [.kept w w.heap.size] := ⟨⟨Below.refl _ _, Nat.le_refl _⟩, trivial⟩
  have hsl := Lib.hid hs
  obtain ⟨hp1, hp2⟩ := pow_le64 h hh
  have hsh : wrap64 ((2 : Int) ^ h) = ((2 ^ h : Nat) : Int) := by
    have e1 : ((2 ^ h : Nat) : Int) = (2 : Int) ^ h := by simp
    have e2 : ((2 ^ h : Nat) : Int) ≤ 64 := by omega
    rw [← e1]
    exact IntWalk.wrap64_in ((2 ^ h : Nat) : Int) ⟨by omega, by omega⟩
  generalize hN : (2 : Nat) ^ h = N at *
  have HN := Lib.hid hN
  have HL := Lib.hid (leavesS_len seed h)
  rw [hN] at HL
  have HS := Lib.hid (leavesS_succ seed h)
  rw [hN] at HS
  clear hN
  clear hs
  go_enter Try.func29, Try.ntmps29
  go_upto_region 1 with (fail)
  refine wp_gen (hR.new (l := seed.map bv) _ 23 rfl rfl) ?_
  intro W hW
  have hI0 : All W [.own (w.heap.size + 1) 23 16 none 0 0 (hvs ((leavesS seed h).take 0)).flatten, .cells w.heap.size 23 (seed.map bv), .kept w w.heap.size] := ⟨Go.Adm.Own.nil _ _ _ _, hW⟩
  have hlW : w.heap.size < W.heap.size := Cells.lt hW.1
  clear hW
  go_wp2
  go_loopw [5, 6] (fun v i wr => ∃ (k : Nat) (A' : Option Addr) (c' : Nat), k ≤ N ∧ i = .int .i64 k ∧ v = .slice A' k c' ∧ All wr [.own (w.heap.size + 1) 23 16 A' k c' (hvs ((leavesS seed h).take k)).flatten, .cells w.heap.size 23 (seed.map bv), .kept w w.heap.size] ∧ w.heap.size + 1 ≤ wr.heap.size) (fun _ i _ => N - (intOf i).toNat)
  case atStart => exact ⟨0, none, 0, by omega, rfl, rfl, hI0, hlW⟩
  case round =>
    obtain ⟨k, A', c', hk, rfl, rfl, hI, hsz⟩ := hrel
    by_cases hlt : k < N
    · have hM := Lib.hid (HS.out k hlt)
      have hp := Lib.hid (publicS_len seed k)
      go_wp2_with (refine wl_load_at rfl 23 (.tmp 2) rfl w.heap.size _ _ (hI.at_ 1 rfl) rfl _ Try.underlying23 rfl (by rw [List.length_map, hsl.out]; kernel_rfl) ?_)
      refine (refPublic_any wr seed k hsl.out).mono ?_
      rintro e w6 ⟨rfl, hb6⟩
      have hI6 := hI.call hb6
      have hs6 := hb6.size
      clear hI hb6
      generalize publicS seed k = x at *
      go_wp2_with (first | (refine wl_lit1 els_half rfl _ rfl (x.map bv) rfl (by rw [List.length_map, hp.out]) (by decide) ?_) | (at_builtin; refine wl_app_at els_half (hI6.alloc _) 0 rfl (.tmp 14) (.tmp 18) rfl (w.heap.size + 1) _ _ _ _ rfl rfl (w6.heap.size + 1) _ 1 1 (x.map bv) rfl (Rd.lit w6 (x.map bv).toArray _ 1 (by rw [List.size_toArray, List.length_map, hp.out])) (bv_one _) (by omega) (by simp; omega) (by intro g hg _; simp [Apart, Res.apart] <;> omega) ?_; intro A7 c7 w7 hI7 hs7))
      refine ⟨⟨k + 1, A7, c7, by omega, by go_num, rfl, ?_, by first | omega | (simp at hs7; omega)⟩, by simp [intOf]; omega⟩
      rw [hM.out, ← hvs_snoc]
      exact hI7
    · obtain rfl : k = N := by omega
      rw [List.take_of_length_le (by rw [HL.out]; omega)] at hI
      go_wp2
      go_ret
      refine ⟨A', c', by rw [HN.out]; rfl, ?_, (hI.at_ 2 rfl).1⟩
      rw [HN.out]
      exact Go.Adm.Own.less hI.1 (by omega)

end Go.Proofs.Ytlnbeglelhdjfaa

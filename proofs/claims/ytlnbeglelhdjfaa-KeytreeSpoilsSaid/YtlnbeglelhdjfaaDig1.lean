/- onetime.base4 yields the four digits of a byte. -/
import Derived.Test.YtlnbeglelhdjfaaKey6
import Derived.Test.YtlnbeglelhdjfaaGen2
import Derived.RangeFuncNested
import Derived.RangeFuncBound
import Derived.RangeFuncCalls
import Derived.RangeFuncLeaves
import Derived.Shelf.Abstract
import Derived.Shelf.RegionOpen
import Derived.OwnWalkIn
import Derived.TacticsInMore
import Derived.LoopNIn
import Derived.LoopIn
set_option linter.unusedSimpArgs false
set_option linter.unusedVariables false
namespace Go.Adm
open Go Go.RowKit
def dig4 (b : UInt8) : List (Fin 4) := [Fin.ofNat 4 (b.toNat / 64), Fin.ofNat 4 (b.toNat / 16), Fin.ofNat 4 (b.toNat / 4), Fin.ofNat 4 b.toNat]
theorem and3 (b : UInt8) (m : Nat) : bits .and .u8 ((b.toNat : Int) / m) 3 = (((Fin.ofNat 4 (b.toNat / m)).val : Nat) : Int) := by
  have h := b.toNat_lt
  have h2 : b.toNat / m ≤ b.toNat := Nat.div_le_self _ _
  have e : ((b.toNat : Int) / m) = ((b.toNat / m : Nat) : Int) := by simp
  rw [e, show (3 : Int) = ((3 : Nat) : Int) from rfl, u8_and_nat _ _ (by omega) (by omega)]
  have h3 : b.toNat / m &&& 3 = b.toNat / m % 4 := Nat.and_two_pow_sub_one_eq_mod _ 2
  rw [h3]
  rfl
theorem dig4_len (b : UInt8) : (dig4 b).length = 4 := rfl
end Go.Adm
namespace Go.Proofs.Ytlnbeglelhdjfaa
open Go Go.RowKit Go.Adm Go.Shelf
attribute [local go_sem] Oper.semAt_some

theorem base4_any (w : World) (b : UInt8) :
    Calls Try.prog 52 #[.int .u8 b.toNat] w fun e w' => e = .returned (.func (.func 60) #[] #[.pointer (some ⟨w.heap.size, 0, none⟩)]) ∧ w' = w.alloc (.cells #[.int .u8 b.toNat] 5) := by
  go_enter Try.func52, Try.ntmps52
  go_wp2
  go_ret
  exact ⟨rfl, rfl⟩

set_option maxHeartbeats 1600000 in
theorem base4_stops (F : Fence) (n : Nat) (hF : F.fn 60) (hro : F.round = none) (hn : 1 ≤ n) (gb : Nat) (b : UInt8) (w : World) (hgb : gb < w.heap.size) (hc : w.cell? ⟨gb, 0, none⟩ = some (.int .u8 b.toNat)) :
    SeqStopsK F n Try.prog 60 #[.pointer (some ⟨gb, 0, none⟩)] (fun x : Fin 4 => #[.int .i64 ((x.val : Nat) : Int)]) (fun W W' => W'.cell? ⟨gb, 0, none⟩ = W.cell? ⟨gb, 0, none⟩) (fun xs => xs = dig4 b) (fun _ => True) 4 w := by
  intro l J Jx W hW hJ hJx hY h0
  have hcW : W.cell? ⟨gb, 0, none⟩ = some (.int .u8 b.toNat) := (hW.cell (p := ⟨gb, 0, none⟩) hgb).trans hc
  have hb := b.toNat_lt
  have e0 : bits .and .u8 ((b.toNat : Int) / 64) 3 = _ := and3 b 64
  have e1 : bits .and .u8 ((b.toNat : Int) / 16) 3 = _ := and3 b 16
  have e2 : bits .and .u8 ((b.toNat : Int) / 4) 3 = _ := and3 b 4
  have e3 := and3 b 1
  have hd0 : dig4 b = [Fin.ofNat 4 (b.toNat / 64), Fin.ofNat 4 (b.toNat / 16), Fin.ofNat 4 (b.toNat / 4), Fin.ofNat 4 (b.toNat / 1)] := by simp [dig4]
  rw [show (((1 : Nat) : Int)) = 1 from rfl, Int.ediv_one] at e3
  generalize Fin.ofNat 4 (b.toNat / 64) = x0 at *
  generalize Fin.ofNat 4 (b.toNat / 16) = x1 at *
  generalize Fin.ofNat 4 (b.toNat / 4) = x2 at *
  generalize Fin.ofNat 4 (b.toNat / 1) = x3 at *
  have hd : dig4 b = [x0, x1, x2, x3] := hd0
  clear hd0
  have l0 := x0.isLt
  have l1 := x1.isLt
  have l2 := x2.isLt
  have l3 := x3.isLt
  refine callsIn_of_wp Try.func60 rfl hF ?_ hro
  simp only [Try.ntmps60, List.size_toArray, List.length_cons, List.length_nil, Nat.reduceAdd, Nat.reduceSub, Array.replicate_succ, Array.replicate_zero, List.push_toArray, List.append_toArray, List.nil_append, List.cons_append]
  gi_wp2
  gi_loopw [3] (fun p wr => ∃ j : Nat, j ≤ 4 ∧ p = .int .i64 (6 - 2 * (j : Int)) ∧ J ((dig4 b).take j) wr ∧ wr.cell? ⟨gb, 0, none⟩ = some (.int .u8 b.toNat)) (fun p _ => (intOf p + 2).toNat)
  case atStart => exact ⟨0, by omega, rfl, h0, hcW⟩
  case round =>
    obtain ⟨j, hj, rfl, hJj, hcj⟩ := hrel
    have hjj : j = 0 ∨ j = 1 ∨ j = 2 ∨ j = 3 ∨ j = 4 := by omega
    rw [hd] at hJj
    rcases hjj with rfl | rfl | rfl | rfl | rfl
    · obtain ⟨fn, tmps, assign, body, hy, hR⟩ := hY _ x0 wr hJj (by simp)
      gi_wp2
      refine hR.mono ?_
      rintro e W' (⟨rfl, hJ', hk'⟩ | ⟨rfl, hJx'⟩)
      · gi_wp2
        go_roundw
        case rel => exact ⟨1, by omega, rfl, by rw [hd]; exact hJ', hk'.trans hcj⟩
        case measure => simp [intOf]
      · gi_wp2
        refine bodyPost_ret (results_none rfl _ _ _) rfl ?_
        exact ⟨⟨_, rfl⟩, .inr ⟨_, trivial, hJx'⟩⟩
    · obtain ⟨fn, tmps, assign, body, hy, hR⟩ := hY _ x1 wr hJj (by simp)
      gi_wp2
      refine hR.mono ?_
      rintro e W' (⟨rfl, hJ', hk'⟩ | ⟨rfl, hJx'⟩)
      · gi_wp2
        go_roundw
        case rel => exact ⟨2, by omega, rfl, by rw [hd]; exact hJ', hk'.trans hcj⟩
        case measure => simp [intOf]
      · gi_wp2
        refine bodyPost_ret (results_none rfl _ _ _) rfl ?_
        exact ⟨⟨_, rfl⟩, .inr ⟨_, trivial, hJx'⟩⟩
    · obtain ⟨fn, tmps, assign, body, hy, hR⟩ := hY _ x2 wr hJj (by simp)
      gi_wp2
      refine hR.mono ?_
      rintro e W' (⟨rfl, hJ', hk'⟩ | ⟨rfl, hJx'⟩)
      · gi_wp2
        go_roundw
        case rel => exact ⟨3, by omega, rfl, by rw [hd]; exact hJ', hk'.trans hcj⟩
        case measure => simp [intOf]
      · gi_wp2
        refine bodyPost_ret (results_none rfl _ _ _) rfl ?_
        exact ⟨⟨_, rfl⟩, .inr ⟨_, trivial, hJx'⟩⟩
    · obtain ⟨fn, tmps, assign, body, hy, hR⟩ := hY _ x3 wr hJj (by simp)
      gi_wp2
      refine hR.mono ?_
      rintro e W' (⟨rfl, hJ', hk'⟩ | ⟨rfl, hJx'⟩)
      · gi_wp2
        go_roundw
        case rel => exact ⟨4, by omega, rfl, by rw [hd]; exact hJ', hk'.trans hcj⟩
        case measure => simp [intOf]
      · gi_wp2
        refine bodyPost_ret (results_none rfl _ _ _) rfl ?_
        exact ⟨⟨_, rfl⟩, .inr ⟨_, trivial, hJx'⟩⟩
    · gi_wp2
      go_end0
      exact ⟨⟨_, rfl⟩, .inl ⟨_, hd.symm, hJj⟩⟩
end Go.Proofs.Ytlnbeglelhdjfaa

/- The texts of numbers: the program. -/
import Derived.Test.YtjdinakdkdjocaaGreatDoorNum1
import Derived.Test.YtjdinakdkdjocaaGreatDoorDocA
import Derived.Test.YtjdinakdkdjocaaGreatDoorLayN
import Derived.IntWalk
set_option linter.unusedSimpArgs false
set_option linter.unusedVariables false
set_option maxRecDepth 100000
namespace Go.Proofs.YtjdinakdkdjocaaGreatDoor
open Go Go.RowKit Go.Adm Go.Shelf Go.Sort

theorem tab_below {P : Program} {n : String} {g : Nat} {k : IntKind} {zs : List Int} {w w' : World} (hg : P.globalNamed n = some g) (h : Lib.TabIs P w n k zs) (hb : Below w.heap.size w w') : Lib.TabIs P w' n k zs := by
  unfold Lib.TabIs World.var? at h ⊢
  rw [hg] at h ⊢
  simp only [Option.bind_some] at h ⊢
  have hlt : g < w.heap.size := by
    rcases Nat.lt_or_ge g w.heap.size with h' | h'
    · exact h'
    · rw [Array.getElem?_eq_none h'] at h; cases h
  rw [hb.block g hlt]
  exact h
theorem tab_keep {P : Program} {n : String} {k : IntKind} {zs : List Int} {w w' : World} (h : Lib.TabIs P w n k zs) (hb : Below w.heap.size w w') : Lib.TabIs P w' n k zs := by
  cases hg : P.globalNamed n with
  | some g => exact tab_below hg h hb
  | none =>
    unfold Lib.TabIs World.var? at h
    rw [hg] at h
    cases h
theorem below_grow (w : World) (q : Nat) (os : Array Obj) : Below w.heap.size w (grow (w.drewN q) os) :=
  ⟨rfl, rfl, rfl, by first | (simp [grow]; done) | (simp [grow]; omega), fun i hi => by
    show ((w.drewN q).heap ++ os)[i]? = w.heap[i]?
    exact Array.getElem?_append_left hi⟩

set_option maxHeartbeats 800000 in
theorem Number_any (n : Int) (h0 : -9223372036854775808 ≤ n) (h1 : n ≤ 9223372036854775807) (w : World) (ht : Lib.TabIs Tryz.prog w "internal/strconv.uint64pow10" .u64 Lib.pow10Tab) :
    Calls Tryz.prog 35 #[.int .i64 n] w fun e w' => e = .returned (.string ⟨(Lib.itoa n).toArray⟩) ∧ Below w.heap.size w w' := by
  have c : Calls Tryz.prog 65 #[.int .i64 n, .int .i64 10] w fun e w' => e = .returned (.string ⟨(Lib.itoa n).toArray⟩) ∧ ∃ k os, w' = grow (w.drewN k) os := Any.strconv_FormatInt_10 Go.Proofs.Tryz.laysM173 n h0 h1 w ht
  go_enter Tryz.func35, Tryz.ntmps35
  go_wp2_with fail
  refine c.mono ?_
  rintro e w1 ⟨rfl, k, os, rfl⟩
  go_wp2
  go_ret
  exact ⟨rfl, below_grow w k os⟩

end Go.Proofs.YtjdinakdkdjocaaGreatDoor

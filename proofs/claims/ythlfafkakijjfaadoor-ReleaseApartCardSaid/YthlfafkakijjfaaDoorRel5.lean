/- The waking test of the laws on releases: the encoded form of an approval. -/
import Derived.Test.YthlfafkakijjfaaDoorRel4
import Derived.Test.YthlfafkakijjfaaDoorRelD
set_option linter.unusedSimpArgs false
set_option linter.unusedVariables false
set_option maxRecDepth 100000
namespace Go.Adm
open Go Go.RowKit Go.AdP
def appA : App := ⟨1 :: List.replicate 31 0, 7⟩
theorem appA_B : appB appA = true := by decide +kernel
theorem appA_E : docE (appL appA) = 0 := by decide +kernel
theorem appA_L : (encD (appL appA)).length = 83 := by decide +kernel
theorem appA_T : (encD (appL appA)).take 9 = [97, 112, 112, 114, 111, 118, 97, 108, 32] := by decide +kernel
end Go.Adm
namespace Go.Proofs.YthlfafkakijjfaaDoor
open Go Go.RowKit Go.Adm Go.AdP
theorem encA (w : World) (ht : Lib.TabIs Tryd.prog w "internal/strconv.uint64pow10" .u64 Lib.pow10Tab) :
    Calls Tryd.prog 8 #[.agg (appC appA).toArray] w fun e w' => ∃ A c, e = .returned (.tuple #[.slice A 83 c, .int .i64 0]) ∧ Below w.heap.size w w' ∧ 83 ≤ c ∧ Rd w' w'.heap.size 1 A 9 (([97, 112, 112, 114, 111, 118, 97, 108, 32] : List UInt8).map bv) := by
  refine (EncodeApproval_any w appA rfl (by decide) (by decide) ht).mono ?_
  rintro e w1 ⟨y, z, rfl, hb, hy, _⟩
  obtain ⟨A, n, c, rfl, rfl, ho, _⟩ := hy appA_B
  have hown := ho appA_E
  rw [appA_E]
  have hrd := Own.rd hown
  have hl := hrd.len
  rw [List.length_map, appA_L] at hl
  obtain rfl : n = 83 := by omega
  have h2 := hrd.take (k := 9) (by decide)
  rw [← List.map_take, show 9 * 1 = 9 from rfl, appA_T] at h2
  exact ⟨A, c, rfl, hb, (Own.cap hown).1, h2⟩
set_option maxHeartbeats 3200000 in
theorem awake_any (w : World) (ht : Lib.TabIs Tryd.prog w "internal/strconv.uint64pow10" .u64 Lib.pow10Tab) :
    Calls Tryd.prog 9 #[] w fun e w' => e = .returned (.bool true) ∧ Below w.heap.size w w' := by
  have hcall := encA w ht
  clear ht
  go_enter Tryd.func9, Tryd.ntmps9
  go_upto_region 2 with (first
    | (refine wl_build rfl 31 [(0, .tmp 4), (1, .const (.int .i64 7))] rfl _ _ #[(0, 32), (32, 1)] (appC appA).toArray zero_app Tryd.underlying31 (fun w => by kernel_rfl) ?_ ?_; kernel_rfl)
    | (go_at_call 8; refine hcall.mono ?_; clear hcall; rintro e w1 ⟨A, c, rfl, hb, hc, hrd⟩))
  have hconv : (convert 22 9 (.slice A 9 c)).run Tryd.prog w1 = .ok (.string ⟨#[97, 112, 112, 114, 111, 118, 97, 108, 32]⟩) w1 := run_conv (P := Tryd.prog) w1 22 9 5 Tryd.underlying22 Tryd.underlying5 Tryd.underlying9 (c := c) hrd
  have wk1 : (9 : Int) ≤ (c : Int) := by omega
  clear hrd
  go_wp2
  go_ret
  exact ⟨rfl, hb⟩
end Go.Proofs.YthlfafkakijjfaaDoor

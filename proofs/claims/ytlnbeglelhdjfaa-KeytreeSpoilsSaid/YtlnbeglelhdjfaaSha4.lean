/- SHA-256: the constants. -/
import Derived.Test.YtlnbeglelhdjfaaSha3
set_option linter.unusedSimpArgs false
set_option linter.unusedVariables false
namespace Go.Proofs.Ytlnbeglelhdjfaa
open Go Go.RowKit Go.Adm

theorem KS_vals : (KS.map uv).toArray = #[.int .u32 1116352408, .int .u32 1899447441, .int .u32 3049323471, .int .u32 3921009573, .int .u32 961987163, .int .u32 1508970993, .int .u32 2453635748, .int .u32 2870763221, .int .u32 3624381080, .int .u32 310598401, .int .u32 607225278, .int .u32 1426881987, .int .u32 1925078388, .int .u32 2162078206, .int .u32 2614888103, .int .u32 3248222580, .int .u32 3835390401, .int .u32 4022224774, .int .u32 264347078, .int .u32 604807628, .int .u32 770255983, .int .u32 1249150122, .int .u32 1555081692, .int .u32 1996064986, .int .u32 2554220882, .int .u32 2821834349, .int .u32 2952996808, .int .u32 3210313671, .int .u32 3336571891, .int .u32 3584528711, .int .u32 113926993, .int .u32 338241895, .int .u32 666307205, .int .u32 773529912, .int .u32 1294757372, .int .u32 1396182291, .int .u32 1695183700, .int .u32 1986661051, .int .u32 2177026350, .int .u32 2456956037, .int .u32 2730485921, .int .u32 2820302411, .int .u32 3259730800, .int .u32 3345764771, .int .u32 3516065817, .int .u32 3600352804, .int .u32 4094571909, .int .u32 275423344, .int .u32 430227734, .int .u32 506948616, .int .u32 659060556, .int .u32 883997877, .int .u32 958139571, .int .u32 1322822218, .int .u32 1537002063, .int .u32 1747873779, .int .u32 1955562222, .int .u32 2024104815, .int .u32 2227730452, .int .u32 2361852424, .int .u32 2428436474, .int .u32 2756734187, .int .u32 3204031479, .int .u32 3329325298] := by rfl

set_option maxRecDepth 100000 in
set_option maxHeartbeats 1600000 in
theorem rounds_any (w : World) : Calls Try.prog 49 #[] w fun e w' => e = .returned (.agg (KS.map uv).toArray) ∧ Below w.heap.size w w' := by
  have hinf : (Try.prog.info? 76).map (·.size) = some (KS.map uv).length := by rw [List.length_map, KS_len]; kernel_rfl
  have HINF := Lib.hid hinf
  clear hinf
  go_enter Try.func49, Try.ntmps49
  go_wp2_with (refine wl_store_all rfl 76 _ _ rfl w.heap.size _ _ (KS.map uv) rfl (congrArg Value.agg KS_vals.symm) (Cells.new _ _ _) rfl HINF.out (uv_one _) ?_; intro w2 hc2 hg2 hs2)
  have hb2 : Below w.heap.size w w2 := ((Below.refl _ _).alloc (Nat.le_refl _) _).grown hg2 (by simp) (fun k hk => by injection hk with hk; omega)
  refine bodyPost_ret (v := .agg (KS.map uv).toArray) ?_ rfl ⟨rfl, hb2⟩
  exact results_cell_row rfl _ _ w.heap.size 76 (KS.map uv).toArray (0, 0) _ rfl hc2 Try.underlying76 rfl (by rw [List.size_toArray]; exact HINF.out)

set_option maxRecDepth 100000 in
set_option maxHeartbeats 1600000 in
theorem constants_any (w : World) : Calls Try.prog 59 #[] w fun e w' => e = .returned (.agg (KS.map uv).toArray) ∧ Below w.heap.size w w' := by
  have hinf : (Try.prog.info? 76).map (·.size) = some (KS.map uv).length := by rw [List.length_map, KS_len]; kernel_rfl
  have HINF := Lib.hid hinf
  clear hinf
  go_enter Try.func59, Try.ntmps59
  go_wp2_with (refine wl_store_all rfl 76 _ _ rfl w.heap.size _ _ (KS.map uv) rfl (congrArg Value.agg KS_vals.symm) (Cells.new _ _ _) rfl HINF.out (uv_one _) ?_; intro w2 hc2 hg2 hs2)
  have hb2 : Below w.heap.size w w2 := ((Below.refl _ _).alloc (Nat.le_refl _) _).grown hg2 (by simp) (fun k hk => by injection hk with hk; omega)
  refine bodyPost_ret (v := .agg (KS.map uv).toArray) ?_ rfl ⟨rfl, hb2⟩
  exact results_cell_row rfl _ _ w.heap.size 76 (KS.map uv).toArray (0, 0) _ rfl hc2 Try.underlying76 rfl (by rw [List.size_toArray]; exact HINF.out)
end Go.Proofs.Ytlnbeglelhdjfaa

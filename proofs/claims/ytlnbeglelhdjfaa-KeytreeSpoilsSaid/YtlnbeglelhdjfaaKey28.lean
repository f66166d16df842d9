/- Sign of the document, refused. -/
import Derived.Test.YtlnbeglelhdjfaaKey27
set_option linter.unusedSimpArgs false
set_option linter.unusedVariables false
namespace Go.Proofs.Ytlnbeglelhdjfaa
open Go Go.RowKit Go.Adm

set_option maxRecDepth 100000 in
set_option maxHeartbeats 3200000 in
theorem refSign_bad (w : World) (seed d : List UInt8) (h n : Int) (hs : seed.length = 16) (hd : d.length = 32) (hb : hOk h = false ∨ n < 0) :
    Calls Try.prog 9 #[.agg (siCells seed h n).toArray, .agg (d.map bv).toArray] w fun e w' => e = .returned (.tuple #[.agg siz.toArray, .agg sgz.toArray, .int .i64 1]) ∧ Below w.heap.size w w' := by
  have hR : All w [.kept w w.heap.size] := ⟨⟨Below.refl _ _, Nat.le_refl _⟩, trivial⟩
  have hsl := Lib.hid hs
  have hbb : h < 0 ∨ 6 < h ∨ n < 0 := by
    rcases hb with e | e
    · by_cases h1 : 0 ≤ h ∧ h ≤ 6
      · rw [(hOk_iff h).2 h1] at e; cases e
      · omega
    · exact .inr (.inr e)
  clear hs hd hb
  go_enter Try.func9, Try.ntmps9
  go_upto_region 1 with (fail)
  refine wp_gen ((((hR.new (l := siCells seed h n) _ 25 rfl rfl).new (l := d.map bv) _ 27 (g := w.heap.size + 1) (by simp) rfl).new (l := siz) _ 25 (g := w.heap.size + 1 + 1) (by simp) rfl).new (l := sgz) _ 30 (g := w.heap.size + 1 + 1 + 1) (by simp) rfl) ?_
  intro W hW
  have c1 := si_at16 hsl.out (hW.at_ 3 rfl)
  have c2 := si_at17 hsl.out (hW.at_ 3 rfl)
  by_cases q1 : h < 0
  · have d1 : decide (h < 0) = true := by simpa using q1
    clear hbb q1
    go_wp2_with (first | (refine wl_build rfl 25 [] rfl _ _ #[(0, 16), (16, 1), (17, 1)] siz.toArray zero_si Try.underlying25 (fun w => by kernel_rfl) rfl ?_) | (refine wl_build rfl 30 [] rfl _ _ #[(0, 1), (1, 1), (2, 1)] sgz.toArray zero_sg Try.underlying30 (fun w => by kernel_rfl) rfl ?_) | (refine wl_store_at hW 1 rfl 25 (.tmp 4) _ rfl (w.heap.size + 1 + 1) _ _ siz rfl rfl rfl rfl (by kernel_rfl) (by decide) (by simp [Apart, Res.apart, Low.parts, Low.els, Low.rd] <;> omega) ?_; intro w8 hI8 hs8) | (refine wl_store_at hI8 0 rfl 30 (.tmp 5) _ rfl (w.heap.size + 1 + 1 + 1) _ _ sgz rfl rfl rfl rfl (by kernel_rfl) (by decide) (by simp [Apart, Res.apart, Low.parts, Low.els, Low.rd] <;> omega) ?_; intro w9 hI9 hs9))
    refine bodyPost_ret (v := .tuple #[.agg siz.toArray, .agg sgz.toArray, .int .i64 1]) ?_ rfl ⟨rfl, (hI9.at_ 4 rfl).1⟩
    exact results_row_row_tmp (p := 4) (p2 := 5) (q := 6) rfl _ _ (w.heap.size + 1 + 1) 25 siz.toArray (0, 0) _ rfl (hI9.at_ 1 rfl) Try.underlying25 rfl (by kernel_rfl) (w.heap.size + 1 + 1 + 1) 30 sgz.toArray (0, 0) _ rfl (hI9.at_ 0 rfl) Try.underlying30 rfl (by kernel_rfl)
  · have d1 : decide (h < 0) = false := by simpa using q1
    by_cases q2 : 6 < h
    · have d2 : decide (6 < h) = true := by simpa using q2
      clear hbb q1 q2
      go_wp2_with (first | (refine wl_build rfl 25 [] rfl _ _ #[(0, 16), (16, 1), (17, 1)] siz.toArray zero_si Try.underlying25 (fun w => by kernel_rfl) rfl ?_) | (refine wl_build rfl 30 [] rfl _ _ #[(0, 1), (1, 1), (2, 1)] sgz.toArray zero_sg Try.underlying30 (fun w => by kernel_rfl) rfl ?_) | (refine wl_store_at hW 1 rfl 25 (.tmp 4) _ rfl (w.heap.size + 1 + 1) _ _ siz rfl rfl rfl rfl (by kernel_rfl) (by decide) (by simp [Apart, Res.apart, Low.parts, Low.els, Low.rd] <;> omega) ?_; intro w8 hI8 hs8) | (refine wl_store_at hI8 0 rfl 30 (.tmp 5) _ rfl (w.heap.size + 1 + 1 + 1) _ _ sgz rfl rfl rfl rfl (by kernel_rfl) (by decide) (by simp [Apart, Res.apart, Low.parts, Low.els, Low.rd] <;> omega) ?_; intro w9 hI9 hs9))
      refine bodyPost_ret (v := .tuple #[.agg siz.toArray, .agg sgz.toArray, .int .i64 1]) ?_ rfl ⟨rfl, (hI9.at_ 4 rfl).1⟩
      exact results_row_row_tmp (p := 4) (p2 := 5) (q := 6) rfl _ _ (w.heap.size + 1 + 1) 25 siz.toArray (0, 0) _ rfl (hI9.at_ 1 rfl) Try.underlying25 rfl (by kernel_rfl) (w.heap.size + 1 + 1 + 1) 30 sgz.toArray (0, 0) _ rfl (hI9.at_ 0 rfl) Try.underlying30 rfl (by kernel_rfl)
    · have d2 : decide (6 < h) = false := by simpa using q2
      have d3 : decide (n < 0) = true := by simp; omega
      clear hbb q1 q2
      go_wp2_with (first | (refine wl_build rfl 25 [] rfl _ _ #[(0, 16), (16, 1), (17, 1)] siz.toArray zero_si Try.underlying25 (fun w => by kernel_rfl) rfl ?_) | (refine wl_build rfl 30 [] rfl _ _ #[(0, 1), (1, 1), (2, 1)] sgz.toArray zero_sg Try.underlying30 (fun w => by kernel_rfl) rfl ?_) | (refine wl_store_at hW 1 rfl 25 (.tmp 4) _ rfl (w.heap.size + 1 + 1) _ _ siz rfl rfl rfl rfl (by kernel_rfl) (by decide) (by simp [Apart, Res.apart, Low.parts, Low.els, Low.rd] <;> omega) ?_; intro w8 hI8 hs8) | (refine wl_store_at hI8 0 rfl 30 (.tmp 5) _ rfl (w.heap.size + 1 + 1 + 1) _ _ sgz rfl rfl rfl rfl (by kernel_rfl) (by decide) (by simp [Apart, Res.apart, Low.parts, Low.els, Low.rd] <;> omega) ?_; intro w9 hI9 hs9))
      refine bodyPost_ret (v := .tuple #[.agg siz.toArray, .agg sgz.toArray, .int .i64 1]) ?_ rfl ⟨rfl, (hI9.at_ 4 rfl).1⟩
      exact results_row_row_tmp (p := 4) (p2 := 5) (q := 6) rfl _ _ (w.heap.size + 1 + 1) 25 siz.toArray (0, 0) _ rfl (hI9.at_ 1 rfl) Try.underlying25 rfl (by kernel_rfl) (w.heap.size + 1 + 1 + 1) 30 sgz.toArray (0, 0) _ rfl (hI9.at_ 0 rfl) Try.underlying30 rfl (by kernel_rfl)

set_option maxRecDepth 100000 in
set_option maxHeartbeats 3200000 in
theorem refSign_full (w : World) (seed d : List UInt8) (kh kn : Nat) (hs : seed.length = 16) (hd : d.length = 32) (hk : kh ≤ 6) (hb : 2 ^ kh ≤ kn) :
    Calls Try.prog 9 #[.agg (siCells seed kh kn).toArray, .agg (d.map bv).toArray] w fun e w' => e = .returned (.tuple #[.agg siz.toArray, .agg sgz.toArray, .int .i64 13]) ∧ Below w.heap.size w w' := by
  have hR : All w [.kept w w.heap.size] := ⟨⟨Below.refl _ _, Nat.le_refl _⟩, trivial⟩
  have hsl := Lib.hid hs
  have h64 := (pow_le64 kh hk)
  have hx : hOk (kh : Int) = true := by unfold hOk; simp; omega
  have hn : decide ((kn : Int) < 0) = false := by simp
  have p1 : IntKind.i64.wrap (2 ^ kh) = ((2 ^ kh : Nat) : Int) := by rw [IntWalk.i64_in _ (by have := h64.2; have : ((2 ^ kh : Nat) : Int) = 2 ^ kh := by simp
                                                                                              omega)]; simp
  have p2 : wrap64 (2 ^ kh) = ((2 ^ kh : Nat) : Int) := by have := pow_cast kh hk; simpa using this
  have hg : decide (((2 ^ kh : Nat) : Int) ≤ (kn : Int)) = true := by simp only [decide_eq_true_eq]; omega
  have hg2 : decide ((2 : Int) ^ kh ≤ (kn : Int)) = true := by
    simp only [decide_eq_true_eq]; exact_mod_cast hb
  have hk0 : decide ((kh : Int) < 0) = false := by simp
  have hk6 : decide ((6 : Int) < (kh : Int)) = false := by simp; omega
  have hki : (kh : Int) ≤ 6 := by omega
  clear hs hd hb
  go_enter Try.func9, Try.ntmps9
  go_upto_region 1 with (fail)
  refine wp_gen ((((hR.new (l := siCells seed kh kn) _ 25 rfl rfl).new (l := d.map bv) _ 27 (g := w.heap.size + 1) (by simp) rfl).new (l := siz) _ 25 (g := w.heap.size + 1 + 1) (by simp) rfl).new (l := sgz) _ 30 (g := w.heap.size + 1 + 1 + 1) (by simp) rfl) ?_
  intro W hW
  have c1 := si_at16 hsl.out (hW.at_ 3 rfl)
  have c2 := si_at17 hsl.out (hW.at_ 3 rfl)
  go_wp2_with (first | (refine wl_build rfl 25 [] rfl _ _ #[(0, 16), (16, 1), (17, 1)] siz.toArray zero_si Try.underlying25 (fun w => by kernel_rfl) rfl ?_) | (refine wl_build rfl 30 [] rfl _ _ #[(0, 1), (1, 1), (2, 1)] sgz.toArray zero_sg Try.underlying30 (fun w => by kernel_rfl) rfl ?_) | (refine wl_store_at hW 1 rfl 25 (.tmp 4) _ rfl (w.heap.size + 1 + 1) _ _ siz rfl rfl rfl rfl (by kernel_rfl) (by decide) (by simp [Apart, Res.apart, Low.parts, Low.els, Low.rd] <;> omega) ?_; intro w8 hI8 hs8) | (refine wl_store_at hI8 0 rfl 30 (.tmp 5) _ rfl (w.heap.size + 1 + 1 + 1) _ _ sgz rfl rfl rfl rfl (by kernel_rfl) (by decide) (by simp [Apart, Res.apart, Low.parts, Low.els, Low.rd] <;> omega) ?_; intro w9 hI9 hs9))
  refine bodyPost_ret (v := .tuple #[.agg siz.toArray, .agg sgz.toArray, .int .i64 13]) ?_ rfl ⟨rfl, (hI9.at_ 4 rfl).1⟩
  exact results_row_row_tmp (p := 4) (p2 := 5) (q := 6) rfl _ _ (w.heap.size + 1 + 1) 25 siz.toArray (0, 0) _ rfl (hI9.at_ 1 rfl) Try.underlying25 rfl (by kernel_rfl) (w.heap.size + 1 + 1 + 1) 30 sgz.toArray (0, 0) _ rfl (hI9.at_ 0 rfl) Try.underlying30 rfl (by kernel_rfl)

end Go.Proofs.Ytlnbeglelhdjfaa

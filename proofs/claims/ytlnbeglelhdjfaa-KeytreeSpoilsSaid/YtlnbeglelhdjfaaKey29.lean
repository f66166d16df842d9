/- awake. -/
import Derived.Test.YtlnbeglelhdjfaaKey28
set_option linter.unusedSimpArgs false
set_option linter.unusedVariables false
namespace Go.Adm
open Go Go.RowKit
def seedA : List UInt8 := 1 :: List.replicate 15 0
def digA : List UInt8 := 2 :: List.replicate 31 0
/-- a guarded operation that is met -/
theorem wl_met {P : Program} {ops : Array Oper} {rest : List Oper} {o : Oper} {a : Act} {w : World} {Q : Exit → Act → World → Prop} (hw : Region.wanted o (yielded ops a.tmps) = true)
    (h : ∀ K : Act → World → Prop, (∀ a w, wpList P ops Q rest a w → K a w) → o.wp P a w K Q) : wpList P ops Q (o :: rest) a w :=
  wpList_step fun K hK => by
    rw [if_pos hw]
    exact h K hK
theorem signS_len (seed : List UInt8) (leaf : Int) (d : List UInt8) : (signS seed leaf d).length = 68 := list68_len _
theorem signS_each (seed : List UInt8) (leaf : Int) (d : List UInt8) : ∀ x ∈ signS seed leaf d, x.length = 16 := list68_each _ fun i _ => signF_len seed leaf d i
theorem pathS_each (seed : List UInt8) (kh kn : Nat) (hn : kn < 2 ^ kh) : ∀ x ∈ pathS seed kh kn, x.length = 16 := by
  intro x hx
  obtain ⟨k, hk, rfl⟩ := List.mem_map.1 hx
  exact sibF_len seed kh kn k (by simpa using hk) hn
end Go.Adm
namespace Go.Proofs.Ytlnbeglelhdjfaa
open Go Go.RowKit Go.Adm

theorem Verify_at (w : World) (B : Nat) (h leaf : Int) (root d : List UInt8) (chain path : List (List UInt8)) (Ac : Option Addr) (nc cc : Nat) (Ap : Option Addr) (np cp : Nat) (hnc : chain.length = nc) (hnp : path.length = np) (hr : root.length = 16) (hd : d.length = 32)
    (hc : Els w B 16 Ac nc (hvs chain)) (hc16 : ∀ x ∈ chain, x.length = 16) (hp : Els w B 16 Ap np (hvs path)) (hp16 : ∀ x ∈ path, x.length = 16) (hB : B ≤ w.heap.size) :
    Calls Try.prog 15 #[.agg (pkCells h root).toArray, .agg (d.map bv).toArray, .agg (sgCells leaf Ac nc cc Ap np cp).toArray] w fun e w' => e = .returned (.bool (verifyB h leaf root d chain path)) ∧ Below w.heap.size w w' := by
  subst hnc hnp
  exact Verify_any w B h leaf root d chain path Ac cc Ap cp hr hd hc hc16 hp hp16 hB
set_option maxRecDepth 100000 in
set_option maxHeartbeats 3200000 in
theorem awake_any (w : World) :
    Calls Try.prog 10 #[] w fun e w' => e = .returned (.bool true) ∧ Below w.heap.size w w' := by
  have hR : All w [.kept w w.heap.size] := ⟨⟨Below.refl _ _, Nat.le_refl _⟩, trivial⟩
  go_enter Try.func10, Try.ntmps10
  go_wp2_with fail
  refine (New_any w seedA 0 rfl (by decide)).mono ?_
  rintro e w1 ⟨rfl, hb1⟩
  have hI1 := hR.call hb1
  have hs1 := hb1.size
  have hr16 := Lib.hid (rootS_len seedA 0)
  have hvf : Hid (∀ r, rootS seedA 0 = r → verifyB (0 : Int) (0 : Int) r digA (signS seedA (0 : Int) digA) (pathS seedA 0 0) = true) := Lib.hid (fun r hr => by rw [← hr]; exact signed_verifies seedA digA 0 0 (by decide) (by decide))
  clear hR hb1
  generalize hr : rootS seedA 0 = r at *
  have hv := Lib.hid (hvf.out r rfl)
  clear hvf hr
  go_wp2_with (refine wl_store_at (hI1.new _ _ rfl rfl) 0 rfl 40 (.tmp 1) _ rfl w1.heap.size _ _ (pkCells (0 : Int) r) rfl rfl rfl (by rw [pk_len _ _ hr16.out]; rfl) (by rw [pk_len _ _ hr16.out]; kernel_rfl) (pk_one _ _) (by simp [Apart, Res.apart] <;> omega) ?_; intro w2 hI2 hs2)
  refine (Sign_make w2 seedA digA 0 0 rfl rfl (by decide) (by decide)).mono ?_
  rintro e w3 ⟨Ac, cc, Ap, cp, B, rfl, hB1, hB2, hcO, hcB, hpO, hb3⟩
  have hI3 : All w3 [.cells w1.heap.size 40 (pkCells (0 : Int) r), .own w2.heap.size 23 16 Ac 68 cc (hvs (signS seedA (0 : Int) digA)).flatten, .own B 23 16 Ap 0 cp (hvs (pathS seedA 0 0)).flatten, .kept w w.heap.size] := ⟨(hI2.call hb3).1, hcO, hpO, (hI2.call hb3).2⟩
  have hs2' := Cells.lt hI2.1
  have hs3 := hb3.size
  have hsz1 := Lib.hid (si_len seedA (0 : Int) ((0 : Int) + 1) rfl)
  have hq : (Value.slice Ac 68 cc).ownBlock ≠ some w3.heap.size := Go.Adm.Own.ne hcO
  have hq2 : (Value.slice Ac 68 cc).ownBlock ≠ some (w3.heap.size + 1) := fun e => (by have := (Go.Adm.Own.lt hcO e).2; omega)
  have hp1 : (Value.slice Ap 0 cp).ownBlock ≠ some w3.heap.size := Go.Adm.Own.ne hpO
  have hp2 : (Value.slice Ap 0 cp).ownBlock ≠ some (w3.heap.size + 1) := fun e => (by have := (Go.Adm.Own.lt hpO e).2; omega)
  have hlw := (hI2.at_ 1 rfl).2
  clear hI1 hI2 hb3 hcO hpO hcB
  go_wp2_with (first | (refine wl_store_at ((hI3.new _ 25 rfl rfl).new _ 30 (g := w3.heap.size + 1) (by simp) rfl) 1 rfl 25 (.tmp 3) _ rfl w3.heap.size _ siz (siCells seedA (0 : Int) ((0 : Int) + 1)) rfl rfl rfl (by rw [hsz1.out]; rfl) (by rw [hsz1.out]; kernel_rfl) (si_one _ _ _) (by simp [Apart, Res.apart, hq, hp1] <;> omega) ?_; intro w4 hI4 hs4) | (refine wl_store_at hI4 0 rfl 30 (.tmp 4) _ rfl (w3.heap.size + 1) _ _ (sgCells (0 : Int) Ac 68 cc Ap 0 cp) rfl rfl rfl rfl (by kernel_rfl) (sg_one _ _ _ _ _ _ _) (by simp [Apart, Res.apart, hq2, hp2] <;> omega) ?_; intro w5 hI5 hs5; have c1 : w5.cell? ⟨w3.heap.size, 17, none⟩ = some (.int .i64 1) := si_at17 rfl (hI5.at_ 1 rfl)) | (refine wl_met rfl fun K hK => ?_; refine wp_load_mid 40 (.tmp 1) rfl w1.heap.size 0 rfl (pkCells (0 : Int) r) _ (Cells.range (hI5.at_ 2 rfl)) Try.underlying40 rfl (by rw [pk_len _ _ hr16.out]; kernel_rfl) ?_; refine hK _ _ ?_; clear hK K) | (refine wl_met rfl fun K hK => ?_; refine wp_load_mid 30 (.tmp 4) rfl (w3.heap.size + 1) 0 rfl (sgCells (0 : Int) Ac 68 cc Ap 0 cp) _ (Cells.range (hI5.at_ 0 rfl)) Try.underlying30 rfl (by kernel_rfl) ?_; refine hK _ _ ?_; clear hK K))
  refine (Verify_at w5 w5.heap.size 0 0 r digA (signS seedA (0 : Int) digA) (pathS seedA 0 0) Ac 68 cc Ap 0 cp (signS_len _ _ _) rfl hr16.out rfl (Els.of (hI5.at_ 3 rfl) (hvs_each (signS_each _ _ _)) (by rw [hvs_len, signS_len])) (signS_each _ _ _) (Els.of (hI5.at_ 4 rfl) (hvs_each (pathS_each seedA 0 0 (by decide))) (by rw [hvs_len]; rfl)) (pathS_each seedA 0 0 (by decide)) (Nat.le_refl _)).mono ?_
  rintro e w6 ⟨rfl, hb6⟩
  rw [hv.out]
  have hI6 := hI5.call hb6
  go_wp2_with fail
  go_ret
  exact ⟨rfl, (hI6.at_ 5 rfl).1⟩
end Go.Proofs.Ytlnbeglelhdjfaa

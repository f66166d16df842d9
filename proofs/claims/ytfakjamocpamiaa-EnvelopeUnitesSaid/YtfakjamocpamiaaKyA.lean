/- digest.Half, and the reference's. One-time keys as plain functions. onetime: Secret, Climb. one-time keys: the reference's Secret and Climb; Join; ID. Join and ID, both of the program and of the reference. Combine and Public, both of the program and of the reference. Public, both of the program and of the reference. -/
import Derived.Test.YtfakjamocpamiaaShaA
import Derived.Test.YtfakjamocpamiaaGen2
import Derived.Deep.Cut
set_option linter.unusedSimpArgs false
set_option linter.unusedVariables false
namespace Go.Adm
def halfS (b : List UInt8) : List UInt8 := (shaS b).take 16
theorem halfS_len (b : List UInt8) : (halfS b).length = 16 := by simp [halfS, shaS_len]
end Go.Adm
namespace Go.Proofs.Ytfakjamocpamiaa
open Go Go.RowKit Go.Adm

set_option maxRecDepth 100000 in
set_option maxHeartbeats 1600000 in
theorem Half_any (w : World) (B : Nat) (A : Option Addr) (n c : Nat) (ps : List (List UInt8)) (h : Parts w B A n ps) (hB : B ≤ w.heap.size) (hn : n ≤ 140737488355328) (ht : ps.flatten.length ≤ 140737488355000) :
  Calls Try.prog 100 #[.slice A n c] w fun e w' => e = .returned (.agg ((halfS ps.flatten).map bv).toArray) ∧ Below w.heap.size w w' := by
 have hl := Lib.hid h.len
 have hR : All w [.low (.parts B A n ps), .kept w w.heap.size, .own (w.heap.size + 1) 5 1 none 0 0 []] := ⟨⟨h, hB⟩, ⟨Below.refl _ _, Nat.le_refl _⟩, Go.Adm.Own.nil _ _ _ _, trivial⟩
 clear h
 go_enter Try.func100, Try.ntmps100
 go_wp2
 go_loopw [3, 10] (fun v i wr => ∃ (k L : Nat) (A' : Option Addr) (c' : Nat), k ≤ n ∧ i = .int .i64 k ∧ Hid (L = (ps.take k).flatten.length) ∧ v = .slice A' L c' ∧
  All wr [.cells w.heap.size 41 (List.replicate 16 (.int .u8 0)), .low (.parts B A n ps), .kept w w.heap.size, .own (w.heap.size + 1) 5 1 A' L c' ((ps.take k).flatten.map bv)] ∧ w.heap.size + 1 ≤ wr.heap.size) (fun _ i _ => n - (intOf i).toNat)
 case atStart => exact ⟨0, 0, none, 0, by omega, rfl, Lib.hid rfl, rfl, hR.new _ _ rfl rfl, by simp⟩
 case round =>
  obtain ⟨k, L, A', c', hk, rfl, HL, rfl, hI, hs⟩ := hrel
  by_cases hlt : k < n
  ·have hkl : k < ps.length := by rw [hl.out]; exact hlt
   obtain ⟨ad, A2, c2, rfl, hb, hc, hl2, hc2, hrd⟩ := Parts.at_ (hI.2.1.1 : Parts wr B _ n ps) hkl
   have hM := flat_take_succ ps k hkl
   have hM2 : Hid ((ps.take (k + 1)).flatten.length = L + ps[k].length) := Lib.hid (by rw [hM, List.length_append, ← HL.out])
   have hM3 : L + ps[k].length ≤ 140737488355000 := by have := hM2.out; have := flat_take_le ps (k + 1); omega
   have HM := Lib.hid hM
   clear hM
   generalize ps[k] = pk at *
   go_wp2_with (at_builtin; refine wl_app_at els_u8 hI 3 rfl (.tmp 14) _ rfl (w.heap.size + 1) _ _ _ _ rfl rfl B _ _ _ _ rfl hrd (bv_one _) (by omega) hs (by intro g hg _; simp [Apart, Res.apart, Low.parts]; omega) ?_; intro A3 c3 w3 hR3 hs3)
   refine ⟨⟨k + 1, L + pk.length, A3, c3, by omega, by go_num, Lib.hid hM2.out.symm, rfl, ?_, by omega⟩, by simp [intOf]; omega⟩
   rw [HM.out, List.map_append]
   exact hR3
  ·have hkn : Hid ((ps.take k).flatten = ps.flatten) := Lib.hid (by rw [List.take_of_length_le (by rw [hl.out]; omega)])
   have hI2 : All wr [.cells w.heap.size 41 (List.replicate 16 (.int .u8 0)), .low (.parts B A n ps), .kept w w.heap.size, .own (w.heap.size + 1) 5 1 A' L c' (ps.flatten.map bv)] := by rw [← hkn.out]; exact hI
   have hLL : Hid (L = ps.flatten.length) := Lib.hid (by rw [HL.out, hkn.out])
   have hcap := Go.Adm.Own.cap (hI2.2.2.2.1 : Go.Adm.Own wr (w.heap.size + 1) 5 1 A' L c' (ps.flatten.map bv))
   have hLb : L ≤ 140737488355328 := by have := hLL.out; omega
   clear hI hkn HL
   generalize hpf : ps.flatten = pf at *
   have HPF := Lib.hid hpf
   clear hpf
   go_wp2_with fail
   refine (ShaSum_any wr wr.heap.size A' L c' pf (Go.Adm.Own.rd hI2.2.2.2.1) (Nat.le_refl _) hLb hcap.1 hcap.2).mono ?_
   rintro e w4 ⟨rfl, hb4⟩
   have hI4 := (hI2.call hb4).erase 3
   have hs4 := hb4.size
   clear hI2
   have h32 : ((shaS pf).map bv).length = 32 := by rw [List.length_map, shaS_len]
   have h16 : ((halfS pf).map bv).length = 16 := by rw [List.length_map, halfS_len]
   have H32 := Lib.hid h32
   have H16 := Lib.hid h16
   clear h32 h16
   go_wp2_with (refine wl_store_at (hI4.new _ _ rfl rfl) 0 rfl 37 (.tmp 6) _ rfl w4.heap.size _ _ ((shaS pf).map bv) rfl rfl rfl H32.out (by rw [H32.out]; kernel_rfl) (bv_one _) (by simp [Apart, Res.apart, Low.parts]; omega) ?_; intro w5 hI5 hs5)
   have hs5' : w5.heap.size = w4.heap.size + 1 := by rw [hs5]; simp
   clear hs5 hI4
   refine wp_region_still_tail 2 (by kernel_rfl) (by kernel_rfl) ?_
   simp only [List.take_succ_cons, List.take_zero, List.drop_succ_cons, List.drop_zero]
   repeat still_step
   refine wpStill_nil ?_
   change wpList _ _ _ _ _ (World.drew (World.alloc w5 _))
   have hI6 := (hI5.new (List.replicate 16 (.int .u8 0)).toArray 41 rfl rfl).drew
   have hg6 : w4.heap.size + 1 = w5.heap.size := hs5'.symm
   refine wl_copy_at hI6 0 rfl (.tmp 20) (.tmp 21) 22 22 rfl 5 Try.underlying22 (by kernel_rfl) w5.heap.size 0 16 16 _ _ ((shaS pf).map bv) rfl (by rw [← hg6]; rfl) (w4.heap.size + 1) (some ⟨w4.heap.size, 0, none⟩) 32 32 16 rfl (by have := Cells.rd hI6.2.1 (o := 0) (n := 32) (by rw [H32.out]; omega); rw [List.drop_zero, List.take_of_length_le (by rw [H32.out]; omega)] at this; exact this) (by decide) (by decide) (bv_one _) (by simp [Apart, Res.apart, Low.parts]; omega) ?_
   intro w7 hI7 hs7
   have e7 : (List.replicate 16 (Value.int .u8 0)).toArray.toList.take 0 ++ (((shaS pf).map bv).take 16 ++ (List.replicate 16 (Value.int .u8 0)).toArray.toList.drop (0 + 16)) = (halfS pf).map bv := by simp [halfS, List.map_take]
   rw [e7] at hI7
   dsimp only [List.set] at hI7
   rw [← hg6] at hI7
   clear hs7 e7 hg6 hI6 hI5 hs5'
   go_wp2_with (first | (refine wl_load_at rfl 41 (.tmp 7) rfl (w4.heap.size + 1) _ _ hI7.1 rfl _ Try.underlying41 rfl (by rw [H16.out]; kernel_rfl) ?_) | (refine wl_store_at hI7 2 rfl 41 _ _ rfl w.heap.size _ _ ((halfS pf).map bv) rfl rfl rfl H16.out (by rw [H16.out]; kernel_rfl) (bv_one _) (by simp [Apart, Res.apart, Low.parts]; omega) ?_; intro w9 hI9 hs9))
   refine bodyPost_ret (v := .agg ((halfS pf).map bv).toArray) ?_ rfl ⟨by rw [HPF.out], (hI9.at_ 4 rfl).1⟩
   exact results_cell_row rfl _ _ w.heap.size 41 ((halfS pf).map bv).toArray (0, 0) _ rfl (hI9.at_ 2 rfl) Try.underlying41 rfl (by rw [List.size_toArray, H16.out]; kernel_rfl)

def halfT (h : List UInt8) (k : Nat) : List UInt8 := h.take k ++ List.replicate (16 - k) 0
theorem halfT_set (b : List UInt8) (k : Nat) (hk : k < 16) : (halfT (halfS b) k).set k ((shaS b).getD k 0) = halfT (halfS b) (k + 1) := by
 have h1 := halfS_len b
 unfold halfT
 rw [List.set_append_right _ _ (by simp; omega), List.length_take, h1, show min k 16 = k from by omega, Nat.sub_self, show 16 - k = (16 - (k + 1)) + 1 from by omega, List.replicate_succ, List.set_cons_zero, List.take_succ_eq_append_getElem (by omega)]
 have h2 := shaS_len b
 simp [halfS, List.getElem_take, List.getD, h2, show k < 32 from by omega]
theorem halfT_all (b : List UInt8) (k : Nat) (hk : k = 16) : halfT (halfS b) k = halfS b := by
 subst hk
 have h1 := halfS_len b
 unfold halfT
 rw [List.take_of_length_le (by omega)]
 simp

set_option maxRecDepth 100000 in
set_option maxHeartbeats 1600000 in
theorem refHalf_any (w : World) (B : Nat) (A : Option Addr) (n c : Nat) (ps : List (List UInt8)) (h : Parts w B A n ps) (hB : B ≤ w.heap.size) (hn : n ≤ 140737488355328) (ht : ps.flatten.length ≤ 140737488355000) :
  Calls Try.prog 102 #[.slice A n c] w fun e w' => e = .returned (.agg ((halfS ps.flatten).map bv).toArray) ∧ Below w.heap.size w w' := by
 have hl := Lib.hid h.len
 have hR : All w [.low (.parts B A n ps), .kept w w.heap.size, .own (w.heap.size + 1) 5 1 none 0 0 []] := ⟨⟨h, hB⟩, ⟨Below.refl _ _, Nat.le_refl _⟩, Go.Adm.Own.nil _ _ _ _, trivial⟩
 clear h
 go_enter Try.func102, Try.ntmps102
 go_wp2
 go_loopw [3, 4] (fun v i wr => ∃ (k L : Nat) (A' : Option Addr) (c' : Nat), k ≤ n ∧ i = .int .i64 k ∧ Hid (L = (ps.take k).flatten.length) ∧ v = .slice A' L c' ∧
  All wr [.cells w.heap.size 41 (List.replicate 16 (.int .u8 0)), .low (.parts B A n ps), .kept w w.heap.size, .own (w.heap.size + 1) 5 1 A' L c' ((ps.take k).flatten.map bv)] ∧ w.heap.size + 1 ≤ wr.heap.size) (fun _ i _ => n - (intOf i).toNat)
 case atStart => exact ⟨0, 0, none, 0, by omega, rfl, Lib.hid rfl, rfl, hR.new _ _ rfl rfl, by simp⟩
 case round =>
  obtain ⟨k, L, A', c', hk, rfl, HL, rfl, hI, hs⟩ := hrel
  by_cases hlt : k < n
  ·have hkl : k < ps.length := by rw [hl.out]; exact hlt
   obtain ⟨ad, A2, c2, rfl, hb, hc, hl2, hc2, hrd⟩ := Parts.at_ (hI.2.1.1 : Parts wr B _ n ps) hkl
   have hM := flat_take_succ ps k hkl
   have hM2 : Hid ((ps.take (k + 1)).flatten.length = L + ps[k].length) := Lib.hid (by rw [hM, List.length_append, ← HL.out])
   have hM3 : L + ps[k].length ≤ 140737488355000 := by have := hM2.out; have := flat_take_le ps (k + 1); omega
   have HM := Lib.hid hM
   clear hM
   generalize ps[k] = pk at *
   go_wp2_with (at_builtin; refine wl_app_at els_u8 hI 3 rfl (.tmp 14) _ rfl (w.heap.size + 1) _ _ _ _ rfl rfl B _ _ _ _ rfl hrd (bv_one _) (by omega) hs (by intro g hg _; simp [Apart, Res.apart, Low.parts]; omega) ?_; intro A3 c3 w3 hR3 hs3)
   refine ⟨⟨k + 1, L + pk.length, A3, c3, by omega, by go_num, Lib.hid hM2.out.symm, rfl, ?_, by omega⟩, by simp [intOf]; omega⟩
   rw [HM.out, List.map_append]
   exact hR3
  ·have hkn : Hid ((ps.take k).flatten = ps.flatten) := Lib.hid (by rw [List.take_of_length_le (by rw [hl.out]; omega)])
   have hI2 : All wr [.cells w.heap.size 41 (List.replicate 16 (.int .u8 0)), .low (.parts B A n ps), .kept w w.heap.size, .own (w.heap.size + 1) 5 1 A' L c' (ps.flatten.map bv)] := by rw [← hkn.out]; exact hI
   have hLL : Hid (L = ps.flatten.length) := Lib.hid (by rw [HL.out, hkn.out])
   have hLb : L ≤ 140737488355000 := by have := hLL.out; omega
   clear hI hkn HL
   generalize hpf : ps.flatten = pf at *
   have HPF := Lib.hid hpf
   clear hpf
   go_wp2_with fail
   refine (refSum_any wr wr.heap.size A' L c' pf (Go.Adm.Own.rd hI2.2.2.2.1) (Nat.le_refl _) hLb).mono ?_
   rintro e w4 ⟨rfl, hb4⟩
   have hI4 := (hI2.call hb4).erase 3
   have hs4 := hb4.size
   clear hI2
   have h32 : ((shaS pf).map bv).length = 32 := by rw [List.length_map, shaS_len]
   have H32 := Lib.hid h32
   clear h32
   go_wp2_with (refine wl_store_at (hI4.new _ _ rfl rfl) 0 rfl 37 (.tmp 5) _ rfl w4.heap.size _ _ ((shaS pf).map bv) rfl rfl rfl H32.out (by rw [H32.out]; kernel_rfl) (bv_one _) (by simp [Apart, Res.apart, Low.parts]; omega) ?_; intro w5 hI5 hs5)
   have hs5' : w5.heap.size = w4.heap.size + 1 := by rw [hs5]; simp
   clear hs5 hI4
   have hI6 := hI5.new (List.replicate 16 (.int .u8 0)).toArray 41 hs5'.symm rfl
   clear hI5
   go_loopw [7] (fun i wv => ∃ k : Nat, k ≤ 16 ∧ i = .int .i64 k ∧ All wv [.cells (w4.heap.size + 1) 41 ((halfT (halfS pf) k).map bv), .cells w4.heap.size 37 ((shaS pf).map bv), .cells w.heap.size 41 (List.replicate 16 (.int .u8 0)), .low (.parts B A n ps), .kept w w.heap.size]) (fun i _ => 16 - (intOf i).toNat)
   case atStart => exact ⟨0, by omega, rfl, hI6⟩
   case round =>
    obtain ⟨j, hj, rfl, hI⟩ := hrel
    by_cases hlj : j < 16
    ·have c1 : wr.cell? ⟨w4.heap.size, j, none⟩ = some (.int .u8 ((shaS pf).getD j 0).toNat) := by
      have := Cells.cell (hI.2.1 : Cells wr w4.heap.size _ _) (i := j) (by rw [H32.out]; omega)
      rw [this, List.getElem_map, List.getD, List.getElem?_eq_getElem (by rw [shaS_len]; omega)]
      rfl
     have f2 := Cells.frozen (hI.1 : Cells wr (w4.heap.size + 1) _ _) j
     have c2 := Cells.cellD (hI.1 : Cells wr (w4.heap.size + 1) _ _) (i := j) (d := undef) (by rw [List.length_map]; simp [halfT, halfS_len]; omega)
     go_wp2
     refine ⟨⟨j + 1, by omega, by go_num, ?_⟩, by simp [intOf]; omega⟩
     rw [← halfT_set _ _ hlj, List.map_set]
     exact hI.store 0 rfl j _ (by simp [Apart, Res.apart, Low.parts]; omega)
    ·have e7 := halfT_all pf j (by omega)
     rw [e7] at hI
     have h16 : ((halfS pf).map bv).length = 16 := by rw [List.length_map, halfS_len]
     have H16 := Lib.hid h16
     clear h16 e7 hI6
     go_wp2_with (first | (refine wl_load_at rfl 41 (.tmp 6) rfl (w4.heap.size + 1) _ _ hI.1 rfl _ Try.underlying41 rfl (by rw [H16.out]; kernel_rfl) ?_) | (refine wl_store_at hI 2 rfl 41 _ _ rfl w.heap.size _ _ ((halfS pf).map bv) rfl rfl rfl H16.out (by rw [H16.out]; kernel_rfl) (bv_one _) (by simp [Apart, Res.apart, Low.parts]; omega) ?_; intro w9 hI9 hs9))
     refine bodyPost_ret (v := .agg ((halfS pf).map bv).toArray) ?_ rfl ⟨by rw [HPF.out], (hI9.at_ 4 rfl).1⟩
     exact results_cell_row rfl _ _ w.heap.size 41 ((halfS pf).map bv).toArray (0, 0) _ rfl (hI9.at_ 2 rfl) Try.underlying41 rfl (by rw [List.size_toArray, H16.out]; kernel_rfl)
end Go.Proofs.Ytfakjamocpamiaa
set_option linter.unusedSimpArgs false
set_option linter.unusedVariables false
namespace Go.Adm
open Go Go.RowKit

def b8 (i : Int) : UInt8 := UInt8.ofNat (i % 256).toNat
theorem b8_val (i : Int) : ((b8 i).toNat : Int) = i % 256 := by
 unfold b8
 rw [UInt8.toNat_ofNat']
 omega
theorem b8_v (i : Int) : Value.int .u8 (i % 256) = bv (b8 i) := by unfold bv; rw [b8_val]
theorem b8_small {i : Int} (h0 : 0 ≤ i) (h1 : i < 256) : Value.int .u8 i = bv (b8 i) := by rw [← b8_v, Int.emod_eq_of_lt h0 h1]
def twoS (i : Int) : List UInt8 := [b8 (i / 256), b8 i]
def secretS (seed : List UInt8) (leaf chain : Int) : List UInt8 := halfS (3 :: seed ++ twoS leaf ++ [b8 chain])
def stepS (x : List UInt8) (leaf chain at_ : Int) : List UInt8 := halfS (4 :: x ++ twoS leaf ++ [b8 chain, b8 at_])
def climbN (x : List UInt8) (leaf chain from_ : Int) : Nat → List UInt8
 | 0 => x
 | n + 1 => stepS (climbN x leaf chain from_ n) leaf chain (from_ + n)
def climbS (x : List UInt8) (leaf chain from_ to : Int) : List UInt8 := if from_ < 0 ∨ 3 < to then x else climbN x leaf chain from_ (to - from_).toNat
def joinS (level index : Int) (a b : List UInt8) : List UInt8 := halfS ([6, b8 level, b8 (index / 256), b8 index] ++ a ++ b)
def combineS (leaf : Int) (ends : List (List UInt8)) : List UInt8 := halfS (5 :: twoS leaf ++ ends.flatten)
def publicS (seed : List UInt8) (leaf : Int) : List UInt8 := combineS leaf ((List.range 68).map fun (i : Nat) => climbS (secretS seed leaf (i : Int)) leaf (i : Int) 0 3)
theorem stepS_len (x : List UInt8) (l c a : Int) : (stepS x l c a).length = 16 := halfS_len _
theorem secretS_len (x : List UInt8) (l c : Int) : (secretS x l c).length = 16 := halfS_len _
theorem joinS_len (l c : Int) (x y : List UInt8) : (joinS l c x y).length = 16 := halfS_len _
theorem combineS_len (l : Int) (x : List (List UInt8)) : (combineS l x).length = 16 := halfS_len _
theorem climbN_len (x : List UInt8) (l c f : Int) (hx : x.length = 16) : ∀ n, (climbN x l c f n).length = 16
 | 0 => hx
 | _ + 1 => stepS_len _ _ _ _
theorem climbS_len (x : List UInt8) (l c f t : Int) (hx : x.length = 16) : (climbS x l c f t).length = 16 := by
 unfold climbS; split
 ·exact hx
 ·exact climbN_len x l c f hx _
theorem publicS_len (s : List UInt8) (l : Int) : (publicS s l).length = 16 := halfS_len _
/-- a slice of a block that is known whole -/
theorem BytesAt.of {w : World} {g B : Nat} {t : TypeId} {b : List UInt8} {n c : Nat} (h : Cells w g t (b.map bv)) (hB : g < B) (hn : n = b.length) (hc : b.length ≤ c) (hc2 : c ≤ 1000) : BytesAt w B (.slice (some ⟨g, 0, none⟩) n c) b := by
 subst hn
 refine ⟨_, c, rfl, hc, by unfold maxLen; omega, ?_⟩
 have := (h.rd (o := 0) (n := b.length) (by simp)).mono (B' := B) (by omega)
 rw [List.drop_zero, List.take_of_length_le (by simp)] at this
 exact this
theorem Parts.of {w : World} {g B : Nat} {t : TypeId} {vs : List Value} {ps : List (List UInt8)} (h : Cells w g t vs) (hB : g < B) {n : Nat} (hn : n = vs.length) (hp : All2 (BytesAt w B) vs ps) : Parts w B (some ⟨g, 0, none⟩) n ps := by
 subst hn
 refine ⟨vs, ?_, hp⟩
 have := (h.rd (o := 0) (n := vs.length) (by simp)).mono (B' := B) (by omega)
 rw [List.drop_zero, List.take_length] at this
 exact this
end Go.Adm
set_option linter.unusedSimpArgs false
set_option linter.unusedVariables false
namespace Go.Proofs.Ytfakjamocpamiaa
open Go Go.RowKit Go.Adm

theorem two_any (w : World) (x : Int) :
  Calls Try.prog 104 #[.int .i64 x] w fun e w' => e = .returned (.slice (some ⟨w.heap.size, 0, none⟩) 2 2) ∧ w' = w.alloc (.cells #[.int .u8 (x / 256 % 256), .int .u8 (x % 256)] 5) := by
 go_enter Try.func104, Try.ntmps104
 go_wp2
 go_ret
 exact ⟨rfl, rfl⟩

set_option maxRecDepth 100000 in
set_option maxHeartbeats 3200000 in
theorem Secret_any (w : World) (seed : List UInt8) (leaf chain : Int) (hs : seed.length = 16) :
  Calls Try.prog 90 #[.agg (seed.map bv).toArray, .int .i64 leaf, .int .i64 chain] w fun e w' => e = .returned (.agg ((secretS seed leaf chain).map bv).toArray) ∧ Below w.heap.size w w' := by
 have hR : All w [.kept w w.heap.size] := ⟨⟨Below.refl _ _, Nat.le_refl _⟩, trivial⟩
 have hsm : Hid ((seed.map bv).length = 16) := Lib.hid (by simpa using hs)
 have hsl := Lib.hid hs
 clear hs
 go_enter Try.func90, Try.ntmps90
 go_wp2
 have hI := (hR.new (seed.map bv).toArray 41 rfl rfl).new (List.replicate 16 (.int .u8 0)).toArray 41 (g := w.heap.size + 1) (by simp) rfl
 refine wp_region_hops 7 [7, 8, 9, 10, 11, 12, 13] _
  [.bytes [3], .eq (.slice (some ⟨w.heap.size, 0, none⟩) 16 16), .eq (.int .i64 leaf), .bytes (twoS leaf), .eq (.int .i64 chain), .eq (.int .u8 (chain % 256)), .bytes [b8 chain]]
  (by kernel_rfl) (by kernel_rfl) hI rfl ?hops ?fin
 case hops =>
  refine ⟨?_, ?_, ?_, ?_, ?_, ?_, ?_, trivial⟩
  ·intro a W hW hb hd K hK
   go_simp
   exact hK _ _ (grown_alloc _ _) (BytesAt.new _ _ _ _ _ _ rfl rfl (by decide) (by decide))
  ·intro a W hW hb hd K hK
   have b1 := hb 3 rfl
   go_simp
   exact hK _ _ (World.grownBy.refl _ _) rfl
  ·intro a W hW hb hd K hK
   have b1 := hb 1 rfl
   go_simp
   exact hK _ _ (World.grownBy.refl _ _) rfl
  ·intro a W hW hb hd K hK
   have b1 : a.tmps[9]?.getD undef = _ := hd ⟨2, .data⟩ (by simp) rfl
   go_simp
   refine (two_any W leaf).mono ?_
   rintro e w' ⟨rfl, rfl⟩
   exact hK _ _ (grown_alloc _ _) (BytesAt.new _ _ _ (twoS leaf) _ _ (by simp only [b8_v]; rfl) rfl (by simp [twoS]) (by decide))
  ·intro a W hW hb hd K hK
   have b1 := hb 2 rfl
   go_simp
   exact hK _ _ (World.grownBy.refl _ _) rfl
  ·intro a W hW hb hd K hK
   have b1 : a.tmps[11]?.getD undef = _ := hd ⟨4, .data⟩ (by simp) rfl
   go_simp
   exact hK _ _ (World.grownBy.refl _ _) rfl
  ·intro a W hW hb hd K hK
   have b1 : a.tmps[12]?.getD undef = _ := hd ⟨5, .data⟩ (by simp) rfl
   go_simp
   exact hK _ _ (grown_alloc _ _) (BytesAt.new _ _ _ [b8 chain] _ _ (by simp only [b8_v]; rfl) rfl (Nat.le_refl 1) (by decide))
 case fin =>
  intro vs W hW hv
  have p0 : BytesAt W W.heap.size (vs 0) [3] := hv 0 (by decide)
  have p3 : BytesAt W W.heap.size (vs 3) (twoS leaf) := hv 3 (by decide)
  have p6 : BytesAt W W.heap.size (vs 6) [b8 chain] := hv 6 (by decide)
  have p1 : BytesAt W W.heap.size (.slice (some ⟨w.heap.size, 0, none⟩) 16 16) seed := BytesAt.of (hW.at_ 1 rfl) (Cells.lt (hW.at_ 1 rfl)) hsl.out.symm (by rw [hsl.out]; omega) (by decide)
  have e1 : vs 1 = .slice (some ⟨w.heap.size, 0, none⟩) 16 16 := hv 1 (by decide)
  obtain ⟨A0, c0, e0, -⟩ := id p0
  obtain ⟨A3, c3, e3, -⟩ := id p3
  obtain ⟨A6, c6, e6, -⟩ := id p6
  rw [e0] at p0
  rw [e3] at p3
  rw [e6] at p6
  clear hv hI
  simp only [putAll, List.drop_succ_cons, List.drop_zero, e0, e1, e3, e6]
  clear e0 e1 e3 e6
  have hfl : Hid (halfS [[3], seed, twoS leaf, [b8 chain]].flatten = secretS seed leaf chain) := Lib.hid (by simp [secretS])
  have h16 := Lib.hid (secretS_len seed leaf chain)
  go_wp2_with fail
  refine (Half_any _ _ _ _ _ [[3], seed, twoS leaf, [b8 chain]] (Parts.of (Cells.new _ _ _) (by simp) rfl
   (.cons (p0.grown (grown_alloc _ _)) (.cons (p1.grown (grown_alloc _ _)) (.cons (p3.grown (grown_alloc _ _)) (.cons (p6.grown (grown_alloc _ _)) .nil))))) (Nat.le_refl _) (by simp) (by simp [twoS, hsl.out])).mono ?_
  rintro e w5 ⟨rfl, hb⟩
  rw [hfl.out]
  have hI5 := (hW.alloc _).call hb
  generalize hr : secretS seed leaf chain = r at *
  have HR := Lib.hid hr
  clear hr
  clear hb p0 p1 p3 p6 hW
  go_wp2_with (refine wl_store_at hI5 0 rfl 41 (.tmp 6) _ rfl (w.heap.size + 1) _ _ (r.map bv) rfl rfl rfl (by rw [List.length_map, h16.out]; rfl) (by rw [List.length_map, h16.out]; kernel_rfl) (bv_one _) (by simp [Apart, Res.apart] <;> omega) ?_; intro w9 hI9 hs9)
  refine bodyPost_ret (v := .agg (r.map bv).toArray) ?_ rfl ⟨by rw [HR.out], (hI9.at_ 2 rfl).1⟩
  exact results_cell_row rfl _ _ (w.heap.size + 1) 41 (r.map bv).toArray (0, 0) _ rfl (hI9.at_ 0 rfl) Try.underlying41 rfl (by rw [List.size_toArray, List.length_map, h16.out]; kernel_rfl)

set_option maxRecDepth 100000 in
set_option maxHeartbeats 3200000 in
theorem Climb_any (w : World) (x : List UInt8) (leaf chain f t : Int) (hx : x.length = 16) :
  Calls Try.prog 89 #[.agg (x.map bv).toArray, .int .i64 leaf, .int .i64 chain, .int .i64 f, .int .i64 t] w fun e w' => e = .returned (.agg ((climbS x leaf chain f t).map bv).toArray) ∧ Below w.heap.size w w' := by
 have hR : All w [.kept w w.heap.size] := ⟨⟨Below.refl _ _, Nat.le_refl _⟩, trivial⟩
 have hsl := Lib.hid hx
 clear hx
 by_cases hc : f < 0 ∨ 3 < t
 ·have hcl : Hid (climbS x leaf chain f t = x) := Lib.hid (by unfold climbS; rw [if_pos hc])
  have hfin : ∀ W : World, All W [.cells (w.heap.size + 1) 41 (List.replicate 16 (.int .u8 0)), .cells w.heap.size 41 (x.map bv), .kept w w.heap.size] → True := fun _ _ => trivial
  clear hfin
  have hcc : (decide (f < 0) = true) ∨ (decide (f < 0) = false ∧ decide (3 < t) = true) := by
   rcases hc with h | h
   ·left; simpa using h
   ·by_cases h1 : f < 0
    ·left; simpa using h1
    ·right; exact ⟨by simpa using h1, by simpa using h⟩
  clear hc
  go_enter Try.func89, Try.ntmps89
  have hI := (hR.new (x.map bv).toArray 41 rfl rfl).new (List.replicate 16 (.int .u8 0)).toArray 41 (g := w.heap.size + 1) (by simp) rfl
  rcases hcc with hd | ⟨hd, hd2⟩
  all_goals
   go_wp2_with (first | (refine wl_load_at rfl 41 (.tmp 5) rfl w.heap.size _ _ hI.2.1 rfl _ Try.underlying41 rfl (by rw [List.length_map, hsl.out]; kernel_rfl) ?_) | (refine wl_store_at hI 0 rfl 41 _ _ rfl (w.heap.size + 1) _ _ (x.map bv) rfl rfl rfl (by rw [List.length_map, hsl.out]; rfl) (by rw [List.length_map, hsl.out]; kernel_rfl) (bv_one _) (by simp [Apart, Res.apart] <;> omega) ?_; intro w9 hI9 hs9))
   refine bodyPost_ret (v := .agg (x.map bv).toArray) ?_ rfl ⟨by rw [hcl.out], (hI9.at_ 2 rfl).1⟩
   exact results_cell_row rfl _ _ (w.heap.size + 1) 41 (x.map bv).toArray (0, 0) _ rfl (hI9.at_ 0 rfl) Try.underlying41 rfl (by rw [List.size_toArray, List.length_map, hsl.out]; kernel_rfl)
 ·have hcl : Hid (climbS x leaf chain f t = climbN x leaf chain f (t - f).toNat) := Lib.hid (by unfold climbS; rw [if_neg hc])
  have hf0 : 0 ≤ f := by omega
  have ht3 : t ≤ 3 := by omega
  have hd : decide (f < 0) = false := by simp; omega
  have hd2 : decide (3 < t) = false := by simp; omega
  clear hc
  go_enter Try.func89, Try.ntmps89
  have hI := (hR.new (x.map bv).toArray 41 rfl rfl).new (List.replicate 16 (.int .u8 0)).toArray 41 (g := w.heap.size + 1) (by simp) rfl
  go_wp2
  clear hd hd2
  go_loopw [11] (fun i wr => ∃ (k : Nat) (a : Int), i = .int .i64 a ∧ Hid (a = f + k) ∧ 0 ≤ a ∧ k ≤ (t - f).toNat ∧ All wr [.cells (w.heap.size + 1) 41 (List.replicate 16 (.int .u8 0)), .cells w.heap.size 41 ((climbN x leaf chain f k).map bv), .kept w w.heap.size]) (fun i _ => (3 - intOf i).toNat)
  case atStart => exact ⟨0, f, rfl, Lib.hid (by simp), hf0, by omega, hI⟩
  case round =>
   obtain ⟨k, at_, rfl, HA, ha0, hk, hIr⟩ := hrel
   have hcx : Hid ((climbN x leaf chain f k).length = 16) := Lib.hid (climbN_len x leaf chain f hsl.out k)
   by_cases hlt : at_ < t
   ·have hat : at_ ≤ 2 := by omega
    have hs1 : Hid (climbN x leaf chain f (k + 1) = stepS (climbN x leaf chain f k) leaf chain at_) := Lib.hid (by rw [climbN, HA.out])
    generalize climbN x leaf chain f k = y at *
    go_wp2
    refine wp_region_hops 9 [25, 26, 27, 28, 29, 30, 31, 32, 33] _
     [.bytes [4], .eq (.slice (some ⟨w.heap.size, 0, none⟩) 16 16), .eq (.int .i64 leaf), .bytes (twoS leaf), .eq (.int .i64 chain), .eq (.int .u8 (chain % 256)), .eq (.int .i64 at_), .eq (.int .u8 (at_ % 256)), .bytes [b8 chain, b8 at_]]
     (by kernel_rfl) (by kernel_rfl) hIr rfl ?hops ?fin
    case hops =>
     refine ⟨?_, ?_, ?_, ?_, ?_, ?_, ?_, ?_, ?_, trivial⟩
     ·intro a W hW hb hd K hK
      go_simp
      exact hK _ _ (grown_alloc _ _) (BytesAt.new _ _ _ [4] _ _ rfl rfl (by decide) (by decide))
     ·intro a W hW hb hd K hK
      have b5 := hb 5 rfl
      go_simp
      exact hK _ _ (World.grownBy.refl _ _) rfl
     ·intro a W hW hb hd K hK
      have b1 := hb 1 rfl
      go_simp
      exact hK _ _ (World.grownBy.refl _ _) rfl
     ·intro a W hW hb hd K hK
      have b27 : a.tmps[27]?.getD undef = _ := hd ⟨2, .data⟩ (by simp) rfl
      go_simp
      refine (two_any W leaf).mono ?_
      rintro e w' ⟨rfl, rfl⟩
      exact hK _ _ (grown_alloc _ _) (BytesAt.new _ _ _ (twoS leaf) _ _ (by simp only [b8_v]; rfl) rfl (by simp [twoS]) (by decide))
     ·intro a W hW hb hd K hK
      have b2 := hb 2 rfl
      go_simp
      exact hK _ _ (World.grownBy.refl _ _) rfl
     ·intro a W hW hb hd K hK
      have b29 : a.tmps[29]?.getD undef = _ := hd ⟨4, .data⟩ (by simp) rfl
      go_simp
      exact hK _ _ (World.grownBy.refl _ _) rfl
     ·intro a W hW hb hd K hK
      have b11 := hb 11 rfl
      go_simp
      exact hK _ _ (World.grownBy.refl _ _) rfl
     ·intro a W hW hb hd K hK
      have b31 : a.tmps[31]?.getD undef = _ := hd ⟨6, .data⟩ (by simp) rfl
      go_simp
      exact hK _ _ (World.grownBy.refl _ _) rfl
     ·intro a W hW hb hd K hK
      have b30 : a.tmps[30]?.getD undef = _ := hd ⟨5, .data⟩ (by simp) rfl
      have b32 : a.tmps[32]?.getD undef = _ := hd ⟨7, .data⟩ (by simp) rfl
      go_simp
      exact hK _ _ (grown_alloc _ _) (BytesAt.new _ _ _ [b8 chain, b8 at_] _ _ (by simp only [b8_v]; rfl) rfl (Nat.le_refl 2) (by decide))
    case fin =>
     intro vs W hW hv
     have p0 : BytesAt W W.heap.size (vs 0) [4] := hv 0 (by decide)
     have p3 : BytesAt W W.heap.size (vs 3) (twoS leaf) := hv 3 (by decide)
     have p8 : BytesAt W W.heap.size (vs 8) [b8 chain, b8 at_] := hv 8 (by decide)
     have p1 : BytesAt W W.heap.size (.slice (some ⟨w.heap.size, 0, none⟩) 16 16) y := BytesAt.of (hW.at_ 1 rfl) (Cells.lt (hW.at_ 1 rfl)) hcx.out.symm (by rw [hcx.out]; omega) (by decide)
     have e1 : vs 1 = .slice (some ⟨w.heap.size, 0, none⟩) 16 16 := hv 1 (by decide)
     obtain ⟨A0, c0, e0, -⟩ := id p0
     obtain ⟨A3, c3, e3, -⟩ := id p3
     obtain ⟨A8, c8, e8, -⟩ := id p8
     rw [e0] at p0
     rw [e3] at p3
     rw [e8] at p8
     clear hv hI hIr
     simp only [putAll, List.drop_succ_cons, List.drop_zero, e0, e1, e3, e8]
     clear e0 e1 e3 e8
     have hfl : Hid (halfS [[4], y, twoS leaf, [b8 chain, b8 at_]].flatten = stepS y leaf chain at_) := Lib.hid (by simp [stepS])
     have h16 := Lib.hid (stepS_len y leaf chain at_)
     go_wp2_with fail
     refine (Half_any _ _ _ _ _ [[4], y, twoS leaf, [b8 chain, b8 at_]] (Parts.of (Cells.new _ _ _) (by simp) rfl
      (.cons (p0.grown (grown_alloc _ _)) (.cons (p1.grown (grown_alloc _ _)) (.cons (p3.grown (grown_alloc _ _)) (.cons (p8.grown (grown_alloc _ _)) .nil))))) (Nat.le_refl _) (by simp) (by simp [twoS, hcx.out])).mono ?_
     rintro e w5 ⟨rfl, hb⟩
     rw [hfl.out]
     have hI5 := (hW.alloc _).call hb
     generalize hr : stepS y leaf chain at_ = r at *
     have HR := Lib.hid hr
     clear hr
     clear hb p0 p1 p3 p8 hW
     go_wp2_with (refine wl_store_at hI5 1 rfl 41 (.tmp 5) _ rfl w.heap.size _ _ (r.map bv) rfl rfl rfl (by rw [List.length_map, h16.out, List.length_map, hcx.out]) (by rw [List.length_map, h16.out]; kernel_rfl) (bv_one _) (by simp [Apart, Res.apart] <;> omega) ?_; intro w9 hI9 hs9)
     go_roundw
     case measure => simp [intOf]; omega
     exact ⟨k + 1, at_ + 1, rfl, Lib.hid (by have := HA.out; omega), by omega, by have := HA.out; omega, by rw [hs1.out]; exact hI9⟩
   ·have hkt : Hid (k = (t - f).toNat) := Lib.hid (by have := HA.out; omega)
    rw [hkt.out] at hcx hIr
    rw [← hcl.out] at hcx hIr
    generalize hr : climbS x leaf chain f t = r at *
    have HR := Lib.hid hr
    clear hr hcl
    go_wp2_with (first | (refine wl_load_at rfl 41 (.tmp 5) rfl w.heap.size _ _ hIr.2.1 rfl _ Try.underlying41 rfl (by rw [List.length_map, hcx.out]; kernel_rfl) ?_) | (refine wl_store_at hIr 0 rfl 41 _ _ rfl (w.heap.size + 1) _ _ (r.map bv) rfl rfl rfl (by rw [List.length_map, hcx.out]; rfl) (by rw [List.length_map, hcx.out]; kernel_rfl) (bv_one _) (by simp [Apart, Res.apart] <;> omega) ?_; intro w9 hI9 hs9))
    refine bodyPost_ret (v := .agg (r.map bv).toArray) ?_ rfl ⟨by rw [HR.out], (hI9.at_ 2 rfl).1⟩
    exact results_cell_row rfl _ _ (w.heap.size + 1) 41 (r.map bv).toArray (0, 0) _ rfl (hI9.at_ 0 rfl) Try.underlying41 rfl (by rw [List.size_toArray, List.length_map, hcx.out]; kernel_rfl)
end Go.Proofs.Ytfakjamocpamiaa
set_option linter.unusedSimpArgs false
set_option linter.unusedVariables false
namespace Go.Proofs.Ytfakjamocpamiaa
open Go Go.RowKit Go.Adm

set_option maxRecDepth 100000 in
set_option maxHeartbeats 3200000 in
theorem refSecret_any (w : World) (seed : List UInt8) (leaf chain : Int) (hs : seed.length = 16) :
  Calls Try.prog 96 #[.agg (seed.map bv).toArray, .int .i64 leaf, .int .i64 chain] w fun e w' => e = .returned (.agg ((secretS seed leaf chain).map bv).toArray) ∧ Below w.heap.size w w' := by
 have hR : All w [.kept w w.heap.size] := ⟨⟨Below.refl _ _, Nat.le_refl _⟩, trivial⟩
 have hsl := Lib.hid hs
 clear hs
 have hfl : Hid (halfS [[3], seed, [b8 (leaf / 256), b8 leaf, b8 chain]].flatten = secretS seed leaf chain) := Lib.hid (by simp [secretS, twoS])
 have h16 := Lib.hid (secretS_len seed leaf chain)
 go_enter Try.func96, Try.ntmps96
 have hI := (hR.new (seed.map bv).toArray 41 rfl rfl).new (List.replicate 16 (.int .u8 0)).toArray 41 (g := w.heap.size + 1) (by simp) rfl
 have hJ := (((hI.new #[.int .u8 3] 5 (g := w.heap.size + 1 + 1) (l := [3].map bv) (by simp) (by first | rfl | (simp only [b8_v]; rfl))).new #[.int .u8 (leaf / 256 % 256), .int .u8 (leaf % 256), .int .u8 (chain % 256)] 5 (g := w.heap.size + 1 + 1 + 1) (l := [b8 (leaf / 256), b8 leaf, b8 chain].map bv) (by simp) (by first | rfl | (simp only [b8_v]; rfl))).new #[.slice (some ⟨w.heap.size + 1 + 1, 0, none⟩) 1 1, .slice (some ⟨w.heap.size, 0, none⟩) 16 16, .slice (some ⟨w.heap.size + 1 + 1 + 1, 0, none⟩) 3 3] 22 (g := w.heap.size + 1 + 1 + 1 + 1) (l := _) (by simp) rfl)
 go_wp2_with fail
 refine (refHalf_any _ _ _ _ _ [[3], seed, [b8 (leaf / 256), b8 leaf, b8 chain]] (Parts.of (hJ.at_ 0 rfl) (Cells.lt (hJ.at_ 0 rfl)) rfl (.cons (BytesAt.of (hJ.at_ 2 rfl) (Cells.lt (hJ.at_ 2 rfl)) rfl (by simp) (by decide)) (.cons (BytesAt.of (hJ.at_ 4 rfl) (Cells.lt (hJ.at_ 4 rfl)) hsl.out.symm (by rw [hsl.out]; omega) (by decide)) (.cons (BytesAt.of (hJ.at_ 1 rfl) (Cells.lt (hJ.at_ 1 rfl)) rfl (by simp) (by decide)) .nil)))) (Nat.le_refl _) (by simp) (by simp [hsl.out])).mono ?_
 rintro e w5 ⟨rfl, hb⟩
 rw [hfl.out]
 have hI5 := hJ.call hb
 generalize hr : secretS seed leaf chain = r at *
 have HR := Lib.hid hr
 clear hr hfl hI hJ hb
 go_wp2_with (refine wl_store_at hI5 3 rfl 41 (.tmp 6) _ rfl (w.heap.size + 1) _ _ (r.map bv) rfl rfl rfl (by rw [List.length_map, h16.out]; rfl) (by rw [List.length_map, h16.out]; kernel_rfl) (bv_one _) (by simp [Apart, Res.apart, Low.parts, Low.els, Low.rd] <;> omega) ?_; intro w9 hI9 hs9)
 refine bodyPost_ret (v := .agg (r.map bv).toArray) ?_ rfl ⟨by rw [HR.out], (hI9.at_ 5 rfl).1⟩
 exact results_cell_row rfl _ _ (w.heap.size + 1) 41 (r.map bv).toArray (0, 0) _ rfl (hI9.at_ 3 rfl) Try.underlying41 rfl (by rw [List.size_toArray, List.length_map, h16.out]; kernel_rfl)

set_option maxRecDepth 100000 in
set_option maxHeartbeats 3200000 in
theorem refClimb_any (w : World) (x : List UInt8) (leaf chain f t : Int) (hx : x.length = 16) :
  Calls Try.prog 95 #[.agg (x.map bv).toArray, .int .i64 leaf, .int .i64 chain, .int .i64 f, .int .i64 t] w fun e w' => e = .returned (.agg ((climbS x leaf chain f t).map bv).toArray) ∧ Below w.heap.size w w' := by
 have hR : All w [.kept w w.heap.size] := ⟨⟨Below.refl _ _, Nat.le_refl _⟩, trivial⟩
 have hsl := Lib.hid hx
 clear hx
 by_cases hc : f < 0 ∨ 3 < t
 ·have hcl : Hid (climbS x leaf chain f t = x) := Lib.hid (by unfold climbS; rw [if_pos hc])
  have hfin : ∀ W : World, All W [.cells (w.heap.size + 1) 41 (List.replicate 16 (.int .u8 0)), .cells w.heap.size 41 (x.map bv), .kept w w.heap.size] → True := fun _ _ => trivial
  clear hfin
  have hcc : (decide (f < 0) = true) ∨ (decide (f < 0) = false ∧ decide (3 < t) = true) := by
   rcases hc with h | h
   ·left; simpa using h
   ·by_cases h1 : f < 0
    ·left; simpa using h1
    ·right; exact ⟨by simpa using h1, by simpa using h⟩
  clear hc
  go_enter Try.func95, Try.ntmps95
  have hI := (hR.new (x.map bv).toArray 41 rfl rfl).new (List.replicate 16 (.int .u8 0)).toArray 41 (g := w.heap.size + 1) (by simp) rfl
  rcases hcc with hd | ⟨hd, hd2⟩
  all_goals
   go_wp2_with (first | (refine wl_load_at rfl 41 (.tmp 5) rfl w.heap.size _ _ hI.2.1 rfl _ Try.underlying41 rfl (by rw [List.length_map, hsl.out]; kernel_rfl) ?_) | (refine wl_store_at hI 0 rfl 41 _ _ rfl (w.heap.size + 1) _ _ (x.map bv) rfl rfl rfl (by rw [List.length_map, hsl.out]; rfl) (by rw [List.length_map, hsl.out]; kernel_rfl) (bv_one _) (by simp [Apart, Res.apart] <;> omega) ?_; intro w9 hI9 hs9))
   refine bodyPost_ret (v := .agg (x.map bv).toArray) ?_ rfl ⟨by rw [hcl.out], (hI9.at_ 2 rfl).1⟩
   exact results_cell_row rfl _ _ (w.heap.size + 1) 41 (x.map bv).toArray (0, 0) _ rfl (hI9.at_ 0 rfl) Try.underlying41 rfl (by rw [List.size_toArray, List.length_map, hsl.out]; kernel_rfl)
 ·have hcl : Hid (climbS x leaf chain f t = climbN x leaf chain f (t - f).toNat) := Lib.hid (by unfold climbS; rw [if_neg hc])
  have hf0 : 0 ≤ f := by omega
  have ht3 : t ≤ 3 := by omega
  have hd : decide (f < 0) = false := by simp; omega
  have hd2 : decide (3 < t) = false := by simp; omega
  clear hc
  go_enter Try.func95, Try.ntmps95
  have hI := (hR.new (x.map bv).toArray 41 rfl rfl).new (List.replicate 16 (.int .u8 0)).toArray 41 (g := w.heap.size + 1) (by simp) rfl
  go_wp2
  clear hd hd2
  go_loopw [11] (fun i wr => ∃ (k : Nat) (a : Int), i = .int .i64 a ∧ Hid (a = f + k) ∧ 0 ≤ a ∧ k ≤ (t - f).toNat ∧ All wr [.cells (w.heap.size + 1) 41 (List.replicate 16 (.int .u8 0)), .cells w.heap.size 41 ((climbN x leaf chain f k).map bv), .kept w w.heap.size]) (fun i _ => (3 - intOf i).toNat)
  case atStart => exact ⟨0, f, rfl, Lib.hid (by simp), hf0, by omega, hI⟩
  case round =>
   obtain ⟨k, at_, rfl, HA, ha0, hk, hIr⟩ := hrel
   have hcx : Hid ((climbN x leaf chain f k).length = 16) := Lib.hid (climbN_len x leaf chain f hsl.out k)
   by_cases hlt : at_ < t
   ·have hat : at_ ≤ 2 := by omega
    have hs1 : Hid (climbN x leaf chain f (k + 1) = stepS (climbN x leaf chain f k) leaf chain at_) := Lib.hid (by rw [climbN, HA.out])
    generalize climbN x leaf chain f k = y at *
    have hlw : w.heap.size + 1 < wr.heap.size := Cells.lt (hIr.at_ 0 rfl)
    have hJ := (((hIr.new #[.int .u8 4] 5 (g := wr.heap.size) (l := [4].map bv) (by simp) (by first | rfl | (simp only [b8_v]; rfl))).new #[.int .u8 (leaf / 256 % 256), .int .u8 (leaf % 256), .int .u8 (chain % 256), .int .u8 at_] 5 (g := wr.heap.size + 1) (l := [b8 (leaf / 256), b8 leaf, b8 chain, b8 at_].map bv) (by simp) (by simp only [b8_v, b8_small ha0 (by omega : at_ < 256)]; rfl)).new #[.slice (some ⟨wr.heap.size, 0, none⟩) 1 1, .slice (some ⟨w.heap.size, 0, none⟩) 16 16, .slice (some ⟨wr.heap.size + 1, 0, none⟩) 4 4] 22 (g := wr.heap.size + 1 + 1) (l := _) (by simp) rfl)
    have hfl : Hid (halfS [[4], y, [b8 (leaf / 256), b8 leaf, b8 chain, b8 at_]].flatten = stepS y leaf chain at_) := Lib.hid (by simp [stepS, twoS])
    have h16 := Lib.hid (stepS_len y leaf chain at_)
    go_wp2_with fail
    refine (refHalf_any _ _ _ _ _ [[4], y, [b8 (leaf / 256), b8 leaf, b8 chain, b8 at_]] (Parts.of (hJ.at_ 0 rfl) (Cells.lt (hJ.at_ 0 rfl)) rfl (.cons (BytesAt.of (hJ.at_ 2 rfl) (Cells.lt (hJ.at_ 2 rfl)) rfl (by simp) (by decide)) (.cons (BytesAt.of (hJ.at_ 4 rfl) (Cells.lt (hJ.at_ 4 rfl)) hcx.out.symm (by rw [hcx.out]; omega) (by decide)) (.cons (BytesAt.of (hJ.at_ 1 rfl) (Cells.lt (hJ.at_ 1 rfl)) rfl (by simp) (by decide)) .nil)))) (Nat.le_refl _) (by simp) (by simp [hcx.out])).mono ?_
    rintro e w5 ⟨rfl, hb⟩
    rw [hfl.out]
    have hI5 := hJ.call hb
    generalize hr : stepS y leaf chain at_ = r at *
    have HR := Lib.hid hr
    clear hr
    clear hb hJ hIr hI
    go_wp2_with (refine wl_store_at hI5 4 rfl 41 (.tmp 5) _ rfl w.heap.size _ _ (r.map bv) rfl rfl rfl (by rw [List.length_map, h16.out, List.length_map, hcx.out]) (by rw [List.length_map, h16.out]; kernel_rfl) (bv_one _) (by simp [Apart, Res.apart] <;> omega) ?_; intro w9 hI9 hs9)
    go_roundw
    case measure => simp [intOf]; omega
    exact ⟨k + 1, at_ + 1, rfl, Lib.hid (by have := HA.out; omega), by omega, by have := HA.out; omega, by rw [hs1.out]; exact ((hI9.erase 0).erase 0).erase 0⟩
   ·have hkt : Hid (k = (t - f).toNat) := Lib.hid (by have := HA.out; omega)
    rw [hkt.out] at hcx hIr
    rw [← hcl.out] at hcx hIr
    generalize hr : climbS x leaf chain f t = r at *
    have HR := Lib.hid hr
    clear hr hcl
    go_wp2_with (first | (refine wl_load_at rfl 41 (.tmp 5) rfl w.heap.size _ _ hIr.2.1 rfl _ Try.underlying41 rfl (by rw [List.length_map, hcx.out]; kernel_rfl) ?_) | (refine wl_store_at hIr 0 rfl 41 _ _ rfl (w.heap.size + 1) _ _ (r.map bv) rfl rfl rfl (by rw [List.length_map, hcx.out]; rfl) (by rw [List.length_map, hcx.out]; kernel_rfl) (bv_one _) (by simp [Apart, Res.apart] <;> omega) ?_; intro w9 hI9 hs9))
    refine bodyPost_ret (v := .agg (r.map bv).toArray) ?_ rfl ⟨by rw [HR.out], (hI9.at_ 2 rfl).1⟩
    exact results_cell_row rfl _ _ (w.heap.size + 1) 41 (r.map bv).toArray (0, 0) _ rfl (hI9.at_ 0 rfl) Try.underlying41 rfl (by rw [List.size_toArray, List.length_map, hcx.out]; kernel_rfl)
end Go.Proofs.Ytfakjamocpamiaa
set_option linter.unusedSimpArgs false
set_option linter.unusedVariables false
namespace Go.Adm
def idS (h : Int) (root : List UInt8) : List UInt8 := shaS (7 :: b8 h :: root)
theorem idS_len (h : Int) (root : List UInt8) : (idS h root).length = 32 := shaS_len _
def pkCells (h : Int) (root : List UInt8) : List Value := .int .i64 h :: root.map bv
end Go.Adm
namespace Go.Proofs.Ytfakjamocpamiaa
open Go Go.RowKit Go.Adm

set_option maxRecDepth 100000 in
set_option maxHeartbeats 3200000 in
theorem Join_any (w : World) (x y : List UInt8) (level index : Int) (hx : x.length = 16) (hy : y.length = 16) :
  Calls Try.prog 79 #[.int .i64 level, .int .i64 index, .agg (x.map bv).toArray, .agg (y.map bv).toArray] w fun e w' => e = .returned (.agg ((joinS level index x y).map bv).toArray) ∧ Below w.heap.size w w' := by
 have hR : All w [.kept w w.heap.size] := ⟨⟨Below.refl _ _, Nat.le_refl _⟩, trivial⟩
 have hxl := Lib.hid hx
 have hyl := Lib.hid hy
 clear hx hy
 have hfl : Hid (halfS [[6, b8 level, b8 (index / 256), b8 index], x, y].flatten = joinS level index x y) := Lib.hid (by simp [joinS])
 have h16 := Lib.hid (joinS_len level index x y)
 go_enter Try.func79, Try.ntmps79
 have hI := ((hR.new (x.map bv).toArray 41 rfl rfl).new (y.map bv).toArray 41 (g := w.heap.size + 1) (by simp) rfl).new (List.replicate 16 (.int .u8 0)).toArray 41 (g := w.heap.size + 1 + 1) (by simp) rfl
 go_wp2
 refine wp_region_hops 10 [9, 10, 11, 12, 13, 14, 15, 16, 17, 18] _
  [.eq (.int .i64 level), .eq (.int .u8 (level % 256)), .eq (.int .i64 index), .eq (.int .i64 (index / 256)), .eq (.int .u8 (index / 256 % 256)), .eq (.int .i64 index), .eq (.int .u8 (index % 256)), .bytes [6, b8 level, b8 (index / 256), b8 index], .eq (.slice (some ⟨w.heap.size, 0, none⟩) 16 16), .eq (.slice (some ⟨w.heap.size + 1, 0, none⟩) 16 16)]
  (by kernel_rfl) (by kernel_rfl) hI rfl ?hops ?fin
 case hops =>
  refine ⟨?_, ?_, ?_, ?_, ?_, ?_, ?_, ?_, ?_, ?_, trivial⟩
  ·intro a W hW hb hd K hK
   have b0 := hb 0 rfl
   go_simp
   exact hK _ _ (World.grownBy.refl _ _) rfl
  ·intro a W hW hb hd K hK
   have b9 : a.tmps[9]?.getD undef = _ := hd ⟨0, .data⟩ (by simp) rfl
   go_simp
   exact hK _ _ (World.grownBy.refl _ _) rfl
  ·intro a W hW hb hd K hK
   have b1 := hb 1 rfl
   go_simp
   exact hK _ _ (World.grownBy.refl _ _) rfl
  ·intro a W hW hb hd K hK
   have b11 : a.tmps[11]?.getD undef = _ := hd ⟨2, .data⟩ (by simp) rfl
   go_simp
   exact hK _ _ (World.grownBy.refl _ _) rfl
  ·intro a W hW hb hd K hK
   have b12 : a.tmps[12]?.getD undef = _ := hd ⟨3, .data⟩ (by simp) rfl
   go_simp
   exact hK _ _ (World.grownBy.refl _ _) rfl
  ·intro a W hW hb hd K hK
   have b1 := hb 1 rfl
   go_simp
   exact hK _ _ (World.grownBy.refl _ _) rfl
  ·intro a W hW hb hd K hK
   have b14 : a.tmps[14]?.getD undef = _ := hd ⟨5, .data⟩ (by simp) rfl
   go_simp
   exact hK _ _ (World.grownBy.refl _ _) rfl
  ·intro a W hW hb hd K hK
   have b10 : a.tmps[10]?.getD undef = _ := hd ⟨1, .data⟩ (by simp) rfl
   have b13 : a.tmps[13]?.getD undef = _ := hd ⟨4, .data⟩ (by simp) rfl
   have b15 : a.tmps[15]?.getD undef = _ := hd ⟨6, .data⟩ (by simp) rfl
   go_simp
   exact hK _ _ (grown_alloc _ _) (BytesAt.new _ _ _ [6, b8 level, b8 (index / 256), b8 index] _ _ (by simp only [b8_v]; rfl) rfl (by simp) (by decide))
  ·intro a W hW hb hd K hK
   have b6 := hb 6 rfl
   go_simp
   exact hK _ _ (World.grownBy.refl _ _) rfl
  ·intro a W hW hb hd K hK
   have b7 := hb 7 rfl
   go_simp
   exact hK _ _ (World.grownBy.refl _ _) rfl
 case fin =>
  intro vs W hW hv
  have p7 : BytesAt W W.heap.size (vs 7) [6, b8 level, b8 (index / 256), b8 index] := hv 7 (by decide)
  have e8 : vs 8 = .slice (some ⟨w.heap.size, 0, none⟩) 16 16 := hv 8 (by decide)
  have e9 : vs 9 = .slice (some ⟨w.heap.size + 1, 0, none⟩) 16 16 := hv 9 (by decide)
  have px : BytesAt W W.heap.size (.slice (some ⟨w.heap.size, 0, none⟩) 16 16) x := BytesAt.of (hW.at_ 2 rfl) (Cells.lt (hW.at_ 2 rfl)) hxl.out.symm (by rw [hxl.out]; omega) (by decide)
  have py : BytesAt W W.heap.size (.slice (some ⟨w.heap.size + 1, 0, none⟩) 16 16) y := BytesAt.of (hW.at_ 1 rfl) (Cells.lt (hW.at_ 1 rfl)) hyl.out.symm (by rw [hyl.out]; omega) (by decide)
  obtain ⟨A7, c7, e7, -⟩ := id p7
  rw [e7] at p7
  clear hv hI
  simp only [putAll, List.drop_succ_cons, List.drop_zero, e7, e8, e9]
  clear e7 e8 e9
  go_wp2_with fail
  refine (Half_any _ _ _ _ _ [[6, b8 level, b8 (index / 256), b8 index], x, y] (Parts.of (Cells.new _ _ _) (by simp) rfl
   (.cons (p7.grown (grown_alloc _ _)) (.cons (px.grown (grown_alloc _ _)) (.cons (py.grown (grown_alloc _ _)) .nil)))) (Nat.le_refl _) (by simp) (by simp [hxl.out, hyl.out])).mono ?_
  rintro e w5 ⟨rfl, hb⟩
  rw [hfl.out]
  have hI5 := (hW.alloc _).call hb
  generalize hr : joinS level index x y = r at *
  have HR := Lib.hid hr
  clear hr hfl hb p7 px py hW
  go_wp2_with (refine wl_store_at hI5 0 rfl 41 (.tmp 8) _ rfl (w.heap.size + 1 + 1) _ _ (r.map bv) rfl rfl rfl (by rw [List.length_map, h16.out]; rfl) (by rw [List.length_map, h16.out]; kernel_rfl) (bv_one _) (by simp [Apart, Res.apart, Low.parts, Low.els, Low.rd] <;> omega) ?_; intro w9 hI9 hs9)
  refine bodyPost_ret (v := .agg (r.map bv).toArray) ?_ rfl ⟨by rw [HR.out], (hI9.at_ 3 rfl).1⟩
  exact results_cell_row rfl _ _ (w.heap.size + 1 + 1) 41 (r.map bv).toArray (0, 0) _ rfl (hI9.at_ 0 rfl) Try.underlying41 rfl (by rw [List.size_toArray, List.length_map, h16.out]; kernel_rfl)

set_option maxRecDepth 100000 in
set_option maxHeartbeats 3200000 in
theorem refJoin_any (w : World) (x y : List UInt8) (level index : Int) (hx : x.length = 16) (hy : y.length = 16) :
  Calls Try.prog 81 #[.int .i64 level, .int .i64 index, .agg (x.map bv).toArray, .agg (y.map bv).toArray] w fun e w' => e = .returned (.agg ((joinS level index x y).map bv).toArray) ∧ Below w.heap.size w w' := by
 have hR : All w [.kept w w.heap.size] := ⟨⟨Below.refl _ _, Nat.le_refl _⟩, trivial⟩
 have hxl := Lib.hid hx
 have hyl := Lib.hid hy
 clear hx hy
 have hfl : Hid (halfS [[6, b8 level, b8 (index / 256), b8 index], x, y].flatten = joinS level index x y) := Lib.hid (by simp [joinS])
 have h16 := Lib.hid (joinS_len level index x y)
 go_enter Try.func81, Try.ntmps81
 have hI := ((hR.new (x.map bv).toArray 41 rfl rfl).new (y.map bv).toArray 41 (g := w.heap.size + 1) (by simp) rfl).new (List.replicate 16 (.int .u8 0)).toArray 41 (g := w.heap.size + 1 + 1) (by simp) rfl
 go_wp2
 refine wp_region_hops 10 [9, 10, 11, 12, 13, 14, 15, 16, 17, 18] _
  [.eq (.int .i64 level), .eq (.int .u8 (level % 256)), .eq (.int .i64 index), .eq (.int .i64 (index / 256)), .eq (.int .u8 (index / 256 % 256)), .eq (.int .i64 index), .eq (.int .u8 (index % 256)), .bytes [6, b8 level, b8 (index / 256), b8 index], .eq (.slice (some ⟨w.heap.size, 0, none⟩) 16 16), .eq (.slice (some ⟨w.heap.size + 1, 0, none⟩) 16 16)]
  (by kernel_rfl) (by kernel_rfl) hI rfl ?hops ?fin
 case hops =>
  refine ⟨?_, ?_, ?_, ?_, ?_, ?_, ?_, ?_, ?_, ?_, trivial⟩
  ·intro a W hW hb hd K hK
   have b0 := hb 0 rfl
   go_simp
   exact hK _ _ (World.grownBy.refl _ _) rfl
  ·intro a W hW hb hd K hK
   have b9 : a.tmps[9]?.getD undef = _ := hd ⟨0, .data⟩ (by simp) rfl
   go_simp
   exact hK _ _ (World.grownBy.refl _ _) rfl
  ·intro a W hW hb hd K hK
   have b1 := hb 1 rfl
   go_simp
   exact hK _ _ (World.grownBy.refl _ _) rfl
  ·intro a W hW hb hd K hK
   have b11 : a.tmps[11]?.getD undef = _ := hd ⟨2, .data⟩ (by simp) rfl
   go_simp
   exact hK _ _ (World.grownBy.refl _ _) rfl
  ·intro a W hW hb hd K hK
   have b12 : a.tmps[12]?.getD undef = _ := hd ⟨3, .data⟩ (by simp) rfl
   go_simp
   exact hK _ _ (World.grownBy.refl _ _) rfl
  ·intro a W hW hb hd K hK
   have b1 := hb 1 rfl
   go_simp
   exact hK _ _ (World.grownBy.refl _ _) rfl
  ·intro a W hW hb hd K hK
   have b14 : a.tmps[14]?.getD undef = _ := hd ⟨5, .data⟩ (by simp) rfl
   go_simp
   exact hK _ _ (World.grownBy.refl _ _) rfl
  ·intro a W hW hb hd K hK
   have b10 : a.tmps[10]?.getD undef = _ := hd ⟨1, .data⟩ (by simp) rfl
   have b13 : a.tmps[13]?.getD undef = _ := hd ⟨4, .data⟩ (by simp) rfl
   have b15 : a.tmps[15]?.getD undef = _ := hd ⟨6, .data⟩ (by simp) rfl
   go_simp
   exact hK _ _ (grown_alloc _ _) (BytesAt.new _ _ _ [6, b8 level, b8 (index / 256), b8 index] _ _ (by simp only [b8_v]; rfl) rfl (by simp) (by decide))
  ·intro a W hW hb hd K hK
   have b6 := hb 6 rfl
   go_simp
   exact hK _ _ (World.grownBy.refl _ _) rfl
  ·intro a W hW hb hd K hK
   have b7 := hb 7 rfl
   go_simp
   exact hK _ _ (World.grownBy.refl _ _) rfl
 case fin =>
  intro vs W hW hv
  have p7 : BytesAt W W.heap.size (vs 7) [6, b8 level, b8 (index / 256), b8 index] := hv 7 (by decide)
  have e8 : vs 8 = .slice (some ⟨w.heap.size, 0, none⟩) 16 16 := hv 8 (by decide)
  have e9 : vs 9 = .slice (some ⟨w.heap.size + 1, 0, none⟩) 16 16 := hv 9 (by decide)
  have px : BytesAt W W.heap.size (.slice (some ⟨w.heap.size, 0, none⟩) 16 16) x := BytesAt.of (hW.at_ 2 rfl) (Cells.lt (hW.at_ 2 rfl)) hxl.out.symm (by rw [hxl.out]; omega) (by decide)
  have py : BytesAt W W.heap.size (.slice (some ⟨w.heap.size + 1, 0, none⟩) 16 16) y := BytesAt.of (hW.at_ 1 rfl) (Cells.lt (hW.at_ 1 rfl)) hyl.out.symm (by rw [hyl.out]; omega) (by decide)
  obtain ⟨A7, c7, e7, -⟩ := id p7
  rw [e7] at p7
  clear hv hI
  simp only [putAll, List.drop_succ_cons, List.drop_zero, e7, e8, e9]
  clear e7 e8 e9
  go_wp2_with fail
  refine (refHalf_any _ _ _ _ _ [[6, b8 level, b8 (index / 256), b8 index], x, y] (Parts.of (Cells.new _ _ _) (by simp) rfl
   (.cons (p7.grown (grown_alloc _ _)) (.cons (px.grown (grown_alloc _ _)) (.cons (py.grown (grown_alloc _ _)) .nil)))) (Nat.le_refl _) (by simp) (by simp [hxl.out, hyl.out])).mono ?_
  rintro e w5 ⟨rfl, hb⟩
  rw [hfl.out]
  have hI5 := (hW.alloc _).call hb
  generalize hr : joinS level index x y = r at *
  have HR := Lib.hid hr
  clear hr hfl hb p7 px py hW
  go_wp2_with (refine wl_store_at hI5 0 rfl 41 (.tmp 8) _ rfl (w.heap.size + 1 + 1) _ _ (r.map bv) rfl rfl rfl (by rw [List.length_map, h16.out]; rfl) (by rw [List.length_map, h16.out]; kernel_rfl) (bv_one _) (by simp [Apart, Res.apart, Low.parts, Low.els, Low.rd] <;> omega) ?_; intro w9 hI9 hs9)
  refine bodyPost_ret (v := .agg (r.map bv).toArray) ?_ rfl ⟨by rw [HR.out], (hI9.at_ 3 rfl).1⟩
  exact results_cell_row rfl _ _ (w.heap.size + 1 + 1) 41 (r.map bv).toArray (0, 0) _ rfl (hI9.at_ 0 rfl) Try.underlying41 rfl (by rw [List.size_toArray, List.length_map, h16.out]; kernel_rfl)

set_option maxRecDepth 100000 in
set_option maxHeartbeats 3200000 in
theorem ID_any (w : World) (h : Int) (root : List UInt8) (hr : root.length = 16) :
  Calls Try.prog 28 #[.agg (pkCells h root).toArray] w fun e w' => e = .returned (.agg ((idS h root).map bv).toArray) ∧ Below w.heap.size w w' := by
 have hR : All w [.kept w w.heap.size] := ⟨⟨Below.refl _ _, Nat.le_refl _⟩, trivial⟩
 have hrl := Lib.hid hr
 clear hr
 have h32 := Lib.hid (idS_len h root)
 go_enter Try.func28, Try.ntmps28
 have hI := (hR.new (pkCells h root).toArray 62 rfl rfl).new (List.replicate 32 (.int .u8 0)).toArray 37 (g := w.heap.size + 1) (by simp) rfl
 go_wp2
 refine wp_region_hops 6 [3, 4, 5, 6, 7, 8] _
  [.eq (.pointer (some ⟨w.heap.size, 0, none⟩)), .eq (.int .i64 h), .eq (.int .u8 (h % 256)), .own (w.heap.size + 2) 5 1 2 ([7, b8 h].map bv), .eq (.pointer (some ⟨w.heap.size, 1, none⟩)), .eq (.slice (some ⟨w.heap.size, 1, none⟩) 16 16)]
  (by kernel_rfl) (by kernel_rfl) hI rfl ?hops ?fin
 case hops =>
  refine ⟨?_, ?_, ?_, ?_, ?_, ?_, trivial⟩
  ·intro a W hW hb hd K hK
   have b1 := hb 1 rfl
   go_simp
   exact hK _ _ (World.grownBy.refl _ _) rfl
  ·intro a W hW hb hd K hK
   have cc : W.cell? ⟨w.heap.size, 0, none⟩ = some (.int .i64 h) := Cells.cell (hW.at_ 1 rfl) (i := 0) (by simp [pkCells])
   have b3 : a.tmps[3]?.getD undef = _ := hd ⟨0, .data⟩ (by simp) rfl
   go_simp
   exact hK _ _ (World.grownBy.refl _ _) rfl
  ·intro a W hW hb hd K hK
   have b4 : a.tmps[4]?.getD undef = _ := hd ⟨1, .data⟩ (by simp) rfl
   go_simp
   exact hK _ _ (World.grownBy.refl _ _) rfl
  ·intro a W hW hb hd K hK
   have b5 : a.tmps[5]?.getD undef = _ := hd ⟨2, .data⟩ (by simp) rfl
   go_simp
   exact hK _ _ (grown_alloc _ _) ⟨by have := Cells.lt (hW.at_ 0 rfl); simp; omega, _, _, rfl, (Go.Adm.Own.lit W _ 2 (by have := Cells.lt (hW.at_ 0 rfl); omega) (by decide) rfl).cast rfl (by simp only [b8_v]; rfl)⟩
  ·intro a W hW hb hd K hK
   have b1 := hb 1 rfl
   go_simp
   exact hK _ _ (World.grownBy.refl _ _) rfl
  ·intro a W hW hb hd K hK
   have b7 : a.tmps[7]?.getD undef = _ := hd ⟨4, .data⟩ (by simp) rfl
   go_simp
   exact hK _ _ (World.grownBy.refl _ _) rfl
 case fin =>
  intro vs W hW hv
  obtain ⟨hb2, A3, c3, e3, hown⟩ : w.heap.size + 2 ≤ W.heap.size ∧ ∃ A c, vs 3 = .slice A 2 c ∧ Go.Adm.Own W (w.heap.size + 2) 5 1 A 2 c ([7, b8 h].map bv) := hv 3 (by decide)
  have e5 : vs 5 = .slice (some ⟨w.heap.size, 1, none⟩) 16 16 := hv 5 (by decide)
  clear hv hI
  simp only [putAll, List.drop_succ_cons, List.drop_zero, e3, e5]
  clear e3 e5
  refine wl_app _ els_u8 rfl (.tmp 6) (.tmp 8) rfl (w.heap.size + 2) A3 2 c3 _ rfl hown (w.heap.size + 1) _ 16 16 (root.map bv) rfl (by have := Cells.rd (hW.at_ 1 rfl) (o := 1) (n := 16) (by simp [pkCells, hrl.out]); rw [show ((pkCells h root).drop 1).take 16 = root.map bv from by show (root.map bv).take 16 = _; rw [List.take_of_length_le (by rw [List.length_map, hrl.out]; omega)]] at this; exact this) (bv_one _) (by decide) hb2 ?_
  intro A4 c4 w4 hown4 hb4 hg4
  have hI4 := hW.app hg4 hown (fun g hg => by simp [Apart, Res.apart] <;> omega)
  have hown5 : Go.Adm.Own w4 (w.heap.size + 2) 5 1 A4 18 c4 ((7 :: b8 h :: root).map bv) := hown4
  have hcap := hown5.cap
  clear hW hown hown4
  go_wp2_with fail
  refine (ShaSum_any w4 w4.heap.size A4 18 c4 (7 :: b8 h :: root) (Go.Adm.Own.rd hown5) (Nat.le_refl _) (by decide) hcap.1 hcap.2).mono ?_
  rintro e w5 ⟨rfl, hb⟩
  have hI5 := hI4.call hb
  change Hid ((idS h root).length = 32) at h32
  rw [show shaS (7 :: b8 h :: root) = idS h root from rfl]
  generalize hr : idS h root = r at *
  have HR := Lib.hid hr
  clear hr hb hown5 hcap hI4
  go_wp2_with (refine wl_store_at hI5 0 rfl 37 (.tmp 2) _ rfl (w.heap.size + 1) _ _ (r.map bv) rfl rfl rfl (by rw [List.length_map, h32.out]; rfl) (by rw [List.length_map, h32.out]; kernel_rfl) (bv_one _) (by simp [Apart, Res.apart, Low.parts, Low.els, Low.rd] <;> omega) ?_; intro w9 hI9 hs9)
  refine bodyPost_ret (v := .agg (r.map bv).toArray) ?_ rfl ⟨by rw [HR.out], (hI9.at_ 2 rfl).1⟩
  exact results_cell_row rfl _ _ (w.heap.size + 1) 37 (r.map bv).toArray (0, 0) _ rfl (hI9.at_ 0 rfl) Try.underlying37 rfl (by rw [List.size_toArray, List.length_map, h32.out]; kernel_rfl)

set_option maxRecDepth 100000 in
set_option maxHeartbeats 3200000 in
theorem refID_any (w : World) (h : Int) (root : List UInt8) (hr : root.length = 16) :
  Calls Try.prog 32 #[.agg (pkCells h root).toArray] w fun e w' => e = .returned (.agg ((idS h root).map bv).toArray) ∧ Below w.heap.size w w' := by
 have hR : All w [.kept w w.heap.size] := ⟨⟨Below.refl _ _, Nat.le_refl _⟩, trivial⟩
 have hrl := Lib.hid hr
 clear hr
 have h32 := Lib.hid (idS_len h root)
 go_enter Try.func32, Try.ntmps32
 go_upto_region 1 with (fail)
 refine wp_gen ((hR.new (pkCells h root).toArray 62 rfl rfl).new (List.replicate 32 (.int .u8 0)).toArray 37 (g := w.heap.size + 1) (by simp) rfl) ?_
 intro W hW
 have cc : W.cell? ⟨w.heap.size, 0, none⟩ = some (.int .i64 h) := Cells.cell (hW.at_ 1 rfl) (i := 0) (by simp [pkCells])
 have hlt : w.heap.size + 1 < W.heap.size := Cells.lt (hW.at_ 0 rfl)
 go_upto_region 2 with (fail)
 have hown : Go.Adm.Own (W.alloc (.cells #[.int .u8 7, .int .u8 (h % 256)] 5)) (w.heap.size + 2) 5 1 (some ⟨W.heap.size, 0, none⟩) 2 2 ([7, b8 h].map bv) := (Go.Adm.Own.lit W _ 2 (by omega) (by decide) rfl).cast rfl (by simp only [b8_v]; rfl)
 have hW2 := hW.new #[.int .u8 7, .int .u8 (h % 256)] 5 rfl rfl
 clear cc
 go_wp2_with (at_builtin; refine wl_app _ els_u8 rfl (.tmp 8) (.tmp 10) rfl (w.heap.size + 2) _ 2 2 _ rfl hown (w.heap.size + 1) _ 16 16 (root.map bv) rfl (by have := Cells.rd (hW2.at_ 2 rfl) (o := 1) (n := 16) (by simp [pkCells, hrl.out]); rw [show ((pkCells h root).drop 1).take 16 = root.map bv from by show (root.map bv).take 16 = _; rw [List.take_of_length_le (by rw [List.length_map, hrl.out]; omega)]] at this; exact this) (bv_one _) (by decide) (by simp; omega) ?_; intro A4 c4 w4 hown4 hb4 hg4)
 have hI4 := (hW.alloc _).app hg4 hown (fun g hg => by simp [Apart, Res.apart] <;> omega)
 have hown5 : Go.Adm.Own w4 (w.heap.size + 2) 5 1 A4 18 c4 ((7 :: b8 h :: root).map bv) := hown4
 have hcap := hown5.cap
 clear hW hown hown4 hW2
 refine (refSum_any w4 w4.heap.size A4 18 c4 (7 :: b8 h :: root) (Go.Adm.Own.rd hown5) (Nat.le_refl _) (by decide)).mono ?_
 rintro e w5 ⟨rfl, hb⟩
 have hI5 := hI4.call hb
 change Hid ((idS h root).length = 32) at h32
 rw [show shaS (7 :: b8 h :: root) = idS h root from rfl]
 generalize hr : idS h root = r at *
 have HR := Lib.hid hr
 clear hr hb hown5 hcap hI4
 go_wp2_with (refine wl_store_at hI5 0 rfl 37 (.tmp 2) _ rfl (w.heap.size + 1) _ _ (r.map bv) rfl rfl rfl (by rw [List.length_map, h32.out]; rfl) (by rw [List.length_map, h32.out]; kernel_rfl) (bv_one _) (by simp [Apart, Res.apart, Low.parts, Low.els, Low.rd] <;> omega) ?_; intro w9 hI9 hs9)
 refine bodyPost_ret (v := .agg (r.map bv).toArray) ?_ rfl ⟨by rw [HR.out], (hI9.at_ 2 rfl).1⟩
 exact results_cell_row rfl _ _ (w.heap.size + 1) 37 (r.map bv).toArray (0, 0) _ rfl (hI9.at_ 0 rfl) Try.underlying37 rfl (by rw [List.size_toArray, List.length_map, h32.out]; kernel_rfl)

end Go.Proofs.Ytfakjamocpamiaa
set_option linter.unusedSimpArgs false
set_option linter.unusedVariables false
namespace Go.Adm
open Go Go.RowKit
def hvs (hs : List (List UInt8)) : List (List Value) := hs.map fun h => h.map bv
theorem hvs_len (hs : List (List UInt8)) : (hvs hs).length = hs.length := by simp [hvs]
theorem hvs_each {hs : List (List UInt8)} (h : ∀ x ∈ hs, x.length = 16) : ∀ e ∈ hvs hs, e.length = 16 := by
 intro e he
 obtain ⟨x, hx, rfl⟩ := List.mem_map.1 he
 rw [List.length_map]; exact h x hx
theorem hvs_flat (hs : List (List UInt8)) : (hvs hs).flatten = hs.flatten.map bv := by simp [hvs, List.map_flatten]
theorem hvs_at (hs : List (List UInt8)) {k : Nat} (hk : k < hs.length) : (hvs hs)[k]'(by rw [hvs_len]; exact hk) = hs[k].map bv := by simp [hvs]
/-- the element of a slice of halves -/
theorem Els.half {w : World} {B n : Nat} {A : Option Addr} {hs : List (List UInt8)} (h : Els w B 16 A n (hvs hs)) {k : Nat} (hk : k < hs.length) :
  ∃ ad, A = some ad ∧ ad.block < B ∧ ∀ j u, (hs[k].map bv)[j]? = some u → w.cell? ((ad.add (k * 16)).add j) = some u := by
 obtain ⟨ad, e, hb, hc⟩ := h.at_ (k := k) (by rw [hvs_len]; exact hk)
 rw [hvs_at hs hk] at hc
 exact ⟨ad, e, hb, hc⟩
end Go.Adm
namespace Go.Proofs.Ytfakjamocpamiaa
open Go Go.RowKit Go.Adm

set_option maxRecDepth 100000 in
set_option maxHeartbeats 3200000 in
theorem Combine_any (w : World) (B : Nat) (A : Option Addr) (n c : Nat) (leaf : Int) (ends : List (List UInt8)) (h : Els w B 16 A n (hvs ends)) (h16 : ∀ x ∈ ends, x.length = 16) (hB : B ≤ w.heap.size) (hn : n ≤ 1000000) :
  Calls Try.prog 99 #[.int .i64 leaf, .slice A n c] w fun e w' => e = .returned (.agg ((combineS leaf ends).map bv).toArray) ∧ Below w.heap.size w w' := by
 have hel : ends.length = n := by have := h.len; rwa [hvs_len] at this
 have hR : All w [.low (.els B 16 A n (hvs ends)), .kept w w.heap.size] := ⟨⟨h, hB⟩, ⟨Below.refl _ _, Nat.le_refl _⟩, trivial⟩
 have HE := Lib.hid hel
 have H16 := Lib.hid h16
 clear h hel h16
 go_enter Try.func99, Try.ntmps99
 go_upto_region 1 with (fail)
 refine wp_gen (hR.new (l := List.replicate 16 (Value.int .u8 0)) _ 41 rfl rfl) ?_
 intro W hW
 have hlt : w.heap.size < W.heap.size := Cells.lt (hW.at_ 0 rfl)
 have hown : Go.Adm.Own ((W.alloc (.cells #[.int .u8 5] 5)).alloc (.cells #[.int .u8 (leaf / 256 % 256), .int .u8 (leaf % 256)] 5)) (w.heap.size + 1) 5 1 (some ⟨W.heap.size, 0, none⟩) 1 1 ([5].map bv) := (Go.Adm.Own.lit W _ 1 (by omega) (by decide) rfl).alloc _
 have htwo : Rd ((W.alloc (.cells #[.int .u8 5] 5)).alloc (.cells #[.int .u8 (leaf / 256 % 256), .int .u8 (leaf % 256)] 5)) (W.heap.size + 2) 1 (some ⟨W.heap.size + 1, 0, none⟩) 2 ((twoS leaf).map bv) := by
  have := Rd.lit (size := 1) (W.alloc (.cells #[.int .u8 5] 5)) #[.int .u8 (leaf / 256 % 256), .int .u8 (leaf % 256)] 5 2 rfl
  simp only [b8_v, World.alloc, Array.size_push] at this
  simp only [b8_v]
  exact this
 go_wp2_with (first | (go_at_call 104; refine (two_any _ leaf).mono ?_; rintro e w' ⟨rfl, rfl⟩) | (at_builtin; refine wl_app _ els_u8 rfl (.tmp 8) (.tmp 10) rfl (w.heap.size + 1) _ 1 1 _ rfl hown (W.heap.size + 2) _ 2 2 ((twoS leaf).map bv) rfl htwo (bv_one _) (by decide) (by simp; omega) ?_; intro A1 c1 w1 hown1 hb1 hg1))
 have hI1 : All w1 [.own (w.heap.size + 1) 5 1 A1 3 c1 ((5 :: twoS leaf).map bv), .cells w.heap.size 41 (List.replicate 16 (.int .u8 0)), .low (.els B 16 A n (hvs ends)), .kept w w.heap.size] :=
  ⟨hown1, ((hW.alloc _).alloc _).app hg1 hown (fun g hg => (by simp [Apart, Res.apart, Low.parts, Low.els, Low.rd] <;> omega))⟩
 clear hW hown htwo hown1 hb1 hg1
 go_loopw [5, 14] (fun v i wr => ∃ (k L : Nat) (A' : Option Addr) (c' : Nat), k ≤ n ∧ i = .int .i64 k ∧ Hid (L = 3 + 16 * k) ∧ L ≤ 16000003 ∧ v = .slice A' L c' ∧
  All wr [.own (w.heap.size + 1) 5 1 A' L c' ((5 :: twoS leaf ++ (ends.take k).flatten).map bv), .cells w.heap.size 41 (List.replicate 16 (.int .u8 0)), .low (.els B 16 A n (hvs ends)), .kept w w.heap.size] ∧ w.heap.size + 1 ≤ wr.heap.size) (fun _ i _ => n - (intOf i).toNat)
 case atStart => exact ⟨0, 3, A1, c1, by omega, rfl, Lib.hid rfl, by omega, rfl, by rw [List.take_zero, List.flatten_nil, List.append_nil]; exact hI1, Cells.lt (hI1.at_ 1 rfl)⟩
 case round =>
  obtain ⟨k, L, A', c', hk, rfl, HL, hL, rfl, hI, hs⟩ := hrel
  by_cases hlt : k < n
  ·have hkl : k < ends.length := by rw [HE.out]; exact hlt
   obtain ⟨ad, rfl, hb, hc⟩ := Els.half (hI.2.2.1.1 : Els wr B 16 _ n (hvs ends)) hkl
   have HC := Lib.hid hc
   have hk16 : Hid (ends[k].length = 16) := Lib.hid (H16.out _ (List.getElem_mem hkl))
   have hM := Lib.hid (flat_take_succ ends k hkl)
   clear hc
   generalize ends[k] = x at *
   have hne := Go.Adm.Own.ne (hI.at_ 0 rfl : Go.Adm.Own wr (w.heap.size + 1) 5 1 A' L c' _)
   go_wp2_with (first | (refine wl_load_any rfl 41 (.tmp 16) rfl (ad.add (k * 16)) rfl (x.map bv) _ HC.out Try.underlying41 rfl (by rw [List.length_map, hk16.out]; kernel_rfl) ?_) | (refine wl_store_at (hI.new _ _ rfl rfl) 0 rfl 41 (.tmp 7) _ rfl wr.heap.size _ _ (x.map bv) rfl rfl rfl (by rw [List.length_map, hk16.out]; rfl) (by rw [List.length_map, hk16.out]; kernel_rfl) (bv_one _) (by simp [Apart, Res.apart, Low.els, hne] <;> omega) ?_; intro w5 hI5 hs5; have hrx := Cells.rd (hI5.at_ 0 rfl) (o := 0) (n := 16) (by rw [List.length_map, hk16.out]; omega); have hI6 := hI5.erase 0; have hs6 : w.heap.size + 1 ≤ w5.heap.size := by rw [hs5]; simp; omega) | (at_builtin; refine wl_app_at els_u8 hI6 0 rfl (.tmp 18) _ rfl (w.heap.size + 1) _ _ _ _ rfl rfl (wr.heap.size + 1) _ 16 16 (x.map bv) rfl (by rw [List.drop_zero, List.take_of_length_le (by rw [List.length_map, hk16.out]; omega)] at hrx; exact hrx) (bv_one _) (by omega) hs6 (by intro g hg _; simp [Apart, Res.apart, Low.els] <;> omega) ?_; intro A7 c7 w7 hI7 hs7))
   refine ⟨⟨k + 1, L + 16, A7, c7, by omega, by go_num, Lib.hid (by have := HL.out; omega), by have := HL.out; omega, rfl, ?_, by omega⟩, by simp [intOf]; omega⟩
   rw [hM.out, ← List.append_assoc, List.map_append]
   exact hI7
  ·have hkn : Hid (5 :: twoS leaf ++ (ends.take k).flatten = 5 :: twoS leaf ++ ends.flatten) := Lib.hid (by rw [List.take_of_length_le (by rw [HE.out]; omega)])
   rw [hkn.out] at hI
   have hcap := Go.Adm.Own.cap (hI.at_ 0 rfl : Go.Adm.Own wr (w.heap.size + 1) 5 1 A' L c' _)
   have hlen : Hid (L = (5 :: twoS leaf ++ ends.flatten).length) := Lib.hid (by have h1 := (hI.at_ 0 rfl : Go.Adm.Own wr (w.heap.size + 1) 5 1 A' L c' _).1; rw [List.length_map] at h1; omega)
   have hfl : Hid (halfS (5 :: twoS leaf ++ ends.flatten) = combineS leaf ends) := Lib.hid rfl
   have h16 := Lib.hid (combineS_len leaf ends)
   generalize hb : 5 :: twoS leaf ++ ends.flatten = b at *
   have hp : BytesAt wr wr.heap.size (.slice A' L c') b := by
    have h1 := Go.Adm.Own.rd (hI.at_ 0 rfl : Go.Adm.Own wr (w.heap.size + 1) 5 1 A' L c' (b.map bv))
    rw [hlen.out] at h1 hcap ⊢
    exact ⟨_, _, rfl, hcap.1, hcap.2, h1⟩
   clear hb hkn
   go_wp2_with fail
   refine (Half_any _ _ _ _ _ [b] (Parts.of (Cells.new _ _ _) (by simp) rfl (.cons (hp.grown (grown_alloc _ _)) .nil)) (Nat.le_refl _) (by simp) (by have := hlen.out; simp; omega)).mono ?_
   rintro e w5 ⟨rfl, hb⟩
   have hI5 := ((hI.erase 0).alloc _).call hb
   rw [show [b].flatten = b from by simp, hfl.out]
   generalize hr : combineS leaf ends = r at *
   have HR := Lib.hid hr
   clear hr hb hI hp
   go_wp2_with (refine wl_store_at hI5 0 rfl 41 (.tmp 4) _ rfl (w.heap.size) _ _ (r.map bv) rfl rfl rfl (by rw [List.length_map, h16.out]; rfl) (by rw [List.length_map, h16.out]; kernel_rfl) (bv_one _) (by simp [Apart, Res.apart, Low.parts, Low.els, Low.rd] <;> omega) ?_; intro w9 hI9 hs9)
   refine bodyPost_ret (v := .agg (r.map bv).toArray) ?_ rfl ⟨by rw [HR.out], (hI9.at_ 2 rfl).1⟩
   exact results_cell_row rfl _ _ (w.heap.size) 41 (r.map bv).toArray (0, 0) _ rfl (hI9.at_ 0 rfl) Try.underlying41 rfl (by rw [List.size_toArray, List.length_map, h16.out]; kernel_rfl)

theorem els_bytes : ElemOf Try.prog 137 22 (.slice none 0 0) 1 24 := ElemOf.mk' Try.underlying137 (by kernel_rfl) rfl (by decide) (by decide)
set_option maxRecDepth 100000 in
set_option maxHeartbeats 3200000 in
theorem refCombine_any (w : World) (B : Nat) (A : Option Addr) (n c : Nat) (leaf : Int) (ends : List (List UInt8)) (h : Els w B 16 A n (hvs ends)) (h16 : ∀ x ∈ ends, x.length = 16) (hB : B ≤ w.heap.size) (hn : n ≤ 1000000) :
  Calls Try.prog 101 #[.int .i64 leaf, .slice A n c] w fun e w' => e = .returned (.agg ((combineS leaf ends).map bv).toArray) ∧ Below w.heap.size w w' := by
 have hel : ends.length = n := by have := h.len; rwa [hvs_len] at this
 have hR : All w [.low (.els B 16 A n (hvs ends)), .kept w w.heap.size] := ⟨⟨h, hB⟩, ⟨Below.refl _ _, Nat.le_refl _⟩, trivial⟩
 have HE := Lib.hid hel
 have H16 := Lib.hid h16
 clear h hel h16
 go_enter Try.func101, Try.ntmps101
 go_upto_region 1 with (fail)
 refine wp_gen (hR.new (l := List.replicate 16 (Value.int .u8 0)) _ 41 rfl rfl) ?_
 intro W hW
 have hlt : w.heap.size < W.heap.size := Cells.lt (hW.at_ 0 rfl)
 have hJ := (hW.new #[.int .u8 5, .int .u8 (leaf / 256 % 256), .int .u8 (leaf % 256)] 5 (l := [5, b8 (leaf / 256), b8 leaf].map bv) rfl (by simp only [b8_v]; rfl))
 have hp0 : BytesAt _ (W.heap.size + 1) (.slice (some ⟨W.heap.size, 0, none⟩) 3 3) [5, b8 (leaf / 256), b8 leaf] := BytesAt.of (hJ.at_ 0 rfl) (Nat.lt_succ_self _) rfl (Nat.le_refl 3) (by decide)
 have hN : Nest ((W.alloc (.cells #[.int .u8 5, .int .u8 (leaf / 256 % 256), .int .u8 (leaf % 256)] 5)).alloc (.cells #[.slice (some ⟨W.heap.size, 0, none⟩) 3 3] 22)) (w.heap.size + 1) 22 1 (some ⟨W.heap.size + 1, 0, none⟩) 1 1 [.slice (some ⟨W.heap.size, 0, none⟩) 3 3] w.heap.size (fun b => b = W.heap.size) (fun w => All2 (BytesAt w w.heap.size) [.slice (some ⟨W.heap.size, 0, none⟩) 3 3] ([5, b8 (leaf / 256), b8 leaf] :: ends.take 0)) := by
  refine Nest.of ?_ ?_ ?_ ?_
  ·have h1 := Go.Adm.Own.lit (base := w.heap.size + 1) (e := 22) (size := 1) (W.alloc (.cells #[.int .u8 5, .int .u8 (leaf / 256 % 256), .int .u8 (leaf % 256)] 5)) #[.slice (some ⟨W.heap.size, 0, none⟩) 3 3] 1 (by simp; omega) (by decide) rfl
   have h2 : (W.alloc (.cells #[.int .u8 5, .int .u8 (leaf / 256 % 256), .int .u8 (leaf % 256)] 5)).heap.size = W.heap.size + 1 := by simp
   rw [h2] at h1
   exact h1
  ·rw [List.take_zero]
   refine .cons ?_ .nil
   have h3 := hp0.mono (B' := (W.alloc (.cells #[.int .u8 5, .int .u8 (leaf / 256 % 256), .int .u8 (leaf % 256)] 5)).heap.size) (by simp)
   exact h3.grown (grown_alloc _ _)
  ·rw [List.take_zero]
   refine St.congr (In := fun w => BytesAt w w.heap.size (.slice (some ⟨W.heap.size, 0, none⟩) 3 3) [5, b8 (leaf / 256), b8 leaf]) (BytesAt.st (by intro ad h; injection h with h; subst h; exact .inr rfl)) (fun w => ⟨fun h => .cons h .nil, fun h => by cases h with | cons h _ => exact h⟩)
  ·rintro b rfl
   exact ⟨by omega, by simp; omega, by simp [Value.ownBlock]⟩
 have hI1 : All ((W.alloc (.cells #[.int .u8 5, .int .u8 (leaf / 256 % 256), .int .u8 (leaf % 256)] 5)).alloc (.cells #[.slice (some ⟨W.heap.size, 0, none⟩) 3 3] 22)) [.nest (w.heap.size + 1) 22 1 (some ⟨W.heap.size + 1, 0, none⟩) (1) 1 [.slice (some ⟨W.heap.size, 0, none⟩) 3 3] w.heap.size (fun b => b = W.heap.size) (fun w => All2 (BytesAt w w.heap.size) [.slice (some ⟨W.heap.size, 0, none⟩) 3 3] ([5, b8 (leaf / 256), b8 leaf] :: ends.take 0)), .cells w.heap.size 41 (List.replicate 16 (.int .u8 0)), .low (.els B 16 A n (hvs ends)), .kept w w.heap.size] := ⟨hN, (hW.alloc _).alloc _⟩
 clear hN hp0 hJ hW
 go_wp2
 go_loopw [5, 6] (fun v i wr => ∃ (k L : Nat) (A' : Option Addr) (c' : Nat) (vs : List Value) (F : Nat → Prop), k ≤ n ∧ i = .int .i64 k ∧ Hid (L = 1 + k) ∧ L ≤ 1000001 ∧ v = .slice A' L c' ∧
  All wr [.nest (w.heap.size + 1) 22 1 A' (L) c' vs w.heap.size F (fun w => All2 (BytesAt w w.heap.size) vs ([5, b8 (leaf / 256), b8 leaf] :: ends.take k)), .cells w.heap.size 41 (List.replicate 16 (.int .u8 0)), .low (.els B 16 A n (hvs ends)), .kept w w.heap.size] ∧ w.heap.size + 1 ≤ wr.heap.size) (fun _ i _ => n - (intOf i).toNat)
 case atStart => exact ⟨0, 1, _, 1, _, _, by omega, rfl, Lib.hid rfl, by omega, rfl, hI1, Cells.lt (hI1.at_ 1 rfl)⟩
 case round =>
  obtain ⟨k, L, A', c', vs, F, hk, rfl, HL, hL, rfl, hI, hs⟩ := hrel
  by_cases hlt : k < n
  ·have hkl : k < ends.length := by rw [HE.out]; exact hlt
   obtain ⟨ad, rfl, hb, hc⟩ := Els.half (hI.2.2.1.1 : Els wr B 16 _ n (hvs ends)) hkl
   have HC := Lib.hid hc
   have hk16 : Hid (ends[k].length = 16) := Lib.hid (H16.out _ (List.getElem_mem hkl))
   have hM : Hid (ends.take (k + 1) = ends.take k ++ [ends[k]]) := Lib.hid (List.take_succ_eq_append_getElem hkl)
   clear hc
   generalize ends[k] = x at *
   have hN := (hI.at_ 0 rfl : Nest wr (w.heap.size + 1) 22 1 A' L c' vs w.heap.size F _)
   have hown0 : Go.Adm.Own (wr.alloc (.cells #[] 5)) wr.heap.size 5 1 (some ⟨wr.heap.size, 0, none⟩) 0 0 [] := Go.Adm.Own.lit wr #[] 0 (Nat.le_refl _) (by decide) rfl
   have hrx : Rd (wr.alloc (.cells #[] 5)) B 1 (some (ad.add (k * 16))) 16 (x.map bv) := ⟨by rw [List.length_map, hk16.out], fun _ => ⟨_, rfl, by rw [add_block]; exact hb, fun j u hu => (World.cell?_alloc_lt wr _ _ (by rw [add_block, add_block]; omega)).trans (HC.out j u hu)⟩⟩
   go_wp2_with (first | (at_builtin; refine wl_app _ els_u8 rfl (.tmp 21) (.tmp 25) rfl wr.heap.size _ 0 0 [] rfl hown0 B _ 16 16 (x.map bv) rfl hrx (bv_one _) (by decide) (by simp) ?_; intro A3 c3 w3 hown3 hb3 hg3; have hI3 := hI.call (((Below.refl _ wr).alloc (Nat.le_refl _) _).trans hb3); have hN3 := (hI3.at_ 0 rfl : Nest w3 (w.heap.size + 1) 22 1 A' L c' vs w.heap.size F _); have hs3 : w.heap.size + 1 ≤ w3.heap.size := by have := hb3.size; simp at this; omega) | (at_builtin; refine wl_app_nest els_bytes (hI3.alloc _) 0 rfl (.tmp 20) (.tmp 27) rfl (w.heap.size + 1) A' L c' vs w.heap.size F _ rfl rfl (w3.heap.size + 1) _ 1 1 _ rfl (Rd.lit w3 _ _ 1 rfl) (by intro u hu; simp only [List.mem_singleton] at hu; subst hu; rfl) (by omega) (by simp; omega) (by omega) (fun b => (Value.slice A3 16 c3).ownBlock = some b) (fun w => BytesAt w w.heap.size (.slice A3 16 c3) x) ?_ ?_ ?_ (by intro g hg _; simp [Apart, Res.apart, Low.els] <;> omega) ?_))
   ·have h1 := hown3.cap
    have h2 : BytesAt w3 w3.heap.size (.slice A3 16 c3) x := ⟨A3, c3, by rw [hk16.out], by rw [hk16.out]; exact h1.1, h1.2, by rw [hk16.out]; exact hown3.rd⟩
    exact h2.grown (grown_alloc _ _)
   ·exact BytesAt.st (by intro ad' h; subst h; exact .inr rfl)
   ·intro b hb'
    have h1 := hown3.lt hb'
    refine ⟨by omega, by simp; omega, fun e => ?_⟩
    have h2 := hN.own.lt e
    omega
   ·intro A5 c5 w5 hI5 hs5
    go_wp2
    refine ⟨⟨k + 1, L + 1, A5, c5, vs ++ [.slice A3 16 c3], (fun b => F b ∨ (Value.slice A3 16 c3).ownBlock = some b), by omega, by go_num, Lib.hid (by have := HL.out; omega), by have := HL.out; omega, rfl, ?_, by first | omega | (simp at hs5; omega)⟩, by simp [intOf]; omega⟩
    refine ⟨Nest.as (hI5.at_ 0 rfl) (fun W' => ?_), hI5.2⟩
    rw [hM.out, ← List.cons_append]
    exact All2.snoc.symm
  ·have hkn : Hid (ends.take k = ends) := Lib.hid (List.take_of_length_le (by rw [HE.out]; omega))
   have hN := (hI.at_ 0 rfl : Nest wr (w.heap.size + 1) 22 1 A' L c' vs w.heap.size F _)
   have hp : Parts wr wr.heap.size A' L ([5, b8 (leaf / 256), b8 leaf] :: ends) := by
    have h1 := hN.inn
    simp only [hkn.out] at h1
    exact ⟨⟨vs, hN.own.rd, h1⟩⟩
   have hfl : Hid (halfS ([5, b8 (leaf / 256), b8 leaf] :: ends).flatten = combineS leaf ends) := Lib.hid (by simp [combineS, twoS])
   have hfl2 : ([5, b8 (leaf / 256), b8 leaf] :: ends).flatten.length ≤ 140737488355000 := by
    rw [List.flatten_cons, List.length_append, flat_len H16.out, HE.out]; simp; omega
   have h16 := Lib.hid (combineS_len leaf ends)
   clear hkn hN
   go_wp2_with fail
   refine (refHalf_any wr wr.heap.size A' L c' _ hp (Nat.le_refl _) (by omega) hfl2).mono ?_
   rintro e w5 ⟨rfl, hb⟩
   have hI5 := (hI.erase 0).call hb
   rw [hfl.out]
   generalize hr : combineS leaf ends = r at *
   have HR := Lib.hid hr
   clear hr hb hI hp hfl2
   go_wp2_with (refine wl_store_at hI5 0 rfl 41 (.tmp 4) _ rfl (w.heap.size) _ _ (r.map bv) rfl rfl rfl (by rw [List.length_map, h16.out]; rfl) (by rw [List.length_map, h16.out]; kernel_rfl) (bv_one _) (by simp [Apart, Res.apart, Low.parts, Low.els, Low.rd] <;> omega) ?_; intro w9 hI9 hs9)
   refine bodyPost_ret (v := .agg (r.map bv).toArray) ?_ rfl ⟨by rw [HR.out], (hI9.at_ 2 rfl).1⟩
   exact results_cell_row rfl _ _ (w.heap.size) 41 (r.map bv).toArray (0, 0) _ rfl (hI9.at_ 0 rfl) Try.underlying41 rfl (by rw [List.size_toArray, List.length_map, h16.out]; kernel_rfl)

end Go.Proofs.Ytfakjamocpamiaa
set_option linter.unusedSimpArgs false
set_option linter.unusedVariables false
namespace Go.Adm
open Go Go.RowKit
def endsS (seed : List UInt8) (leaf : Int) : List (List UInt8) := (List.range 68).map fun (i : Nat) => climbS (secretS seed leaf (i : Int)) leaf (i : Int) 0 3
theorem endsS_len (seed : List UInt8) (leaf : Int) : (endsS seed leaf).length = 68 := by simp [endsS]
theorem endsS_each (seed : List UInt8) (leaf : Int) : ∀ x ∈ endsS seed leaf, x.length = 16 := by
 intro x hx
 obtain ⟨i, _, rfl⟩ := List.mem_map.1 hx
 exact climbS_len _ _ _ _ _ (secretS_len _ _ _)
theorem endsS_succ (seed : List UInt8) (leaf : Int) (k : Nat) (hk : k < 68) : (endsS seed leaf).take (k + 1) = (endsS seed leaf).take k ++ [climbS (secretS seed leaf k) leaf k 0 3] := by
 rw [List.take_succ_eq_append_getElem (by rw [endsS_len]; exact hk)]
 simp [endsS]
theorem hvs_snoc (hs : List (List UInt8)) (h : List UInt8) : (hvs hs).flatten ++ h.map bv = (hvs (hs ++ [h])).flatten := by simp [hvs]
end Go.Adm
namespace Go.Proofs.Ytfakjamocpamiaa
open Go Go.RowKit Go.Adm

theorem els_half : ElemOf Try.prog 58 41 (.agg (List.replicate 16 (.int .u8 0)).toArray) 16 16 := ElemOf.mk' Try.underlying58 (by kernel_rfl) rfl (by decide) (by decide)
set_option maxRecDepth 100000 in
set_option maxHeartbeats 3200000 in
theorem Public_any (w : World) (seed : List UInt8) (leaf : Int) (hs : seed.length = 16) :
  Calls Try.prog 91 #[.agg (seed.map bv).toArray, .int .i64 leaf] w fun e w' => e = .returned (.agg ((publicS seed leaf).map bv).toArray) ∧ Below w.heap.size w w' := by
 have hR : All w [.kept w w.heap.size] := ⟨⟨Below.refl _ _, Nat.le_refl _⟩, trivial⟩
 have hsl := Lib.hid hs
 clear hs
 go_enter Try.func91, Try.ntmps91
 go_upto_region 1 with (fail)
 refine wp_gen ((hR.new (l := seed.map bv) _ 41 rfl rfl).new (l := List.replicate 16 (Value.int .u8 0)) _ 41 (g := w.heap.size + 1) (by simp) rfl) ?_
 intro W hW
 have hlt : w.heap.size + 1 < W.heap.size := Cells.lt (hW.at_ 0 rfl)
 have hI0 : All W [.own (w.heap.size + 2) 41 16 none 0 0 [], .cells (w.heap.size + 1) 41 (List.replicate 16 (.int .u8 0)), .cells w.heap.size 41 (seed.map bv), .kept w w.heap.size] := ⟨Go.Adm.Own.nil _ _ _ _, hW⟩
 clear hW
 go_wp2
 go_loopw [5, 7] (fun v i wr => ∃ (k : Nat) (A' : Option Addr) (c' : Nat), k ≤ 68 ∧ i = .int .i64 k ∧ v = .slice A' k c' ∧
  All wr [.own (w.heap.size + 2) 41 16 A' k c' (hvs ((endsS seed leaf).take k)).flatten, .cells (w.heap.size + 1) 41 (List.replicate 16 (.int .u8 0)), .cells w.heap.size 41 (seed.map bv), .kept w w.heap.size] ∧ w.heap.size + 2 ≤ wr.heap.size) (fun _ i _ => 68 - (intOf i).toNat)
 case atStart => exact ⟨0, none, 0, by omega, rfl, rfl, hI0, hlt⟩
 case round =>
  obtain ⟨k, A', c', hk, rfl, rfl, hI, hsz⟩ := hrel
  by_cases hlt : k < 68
  ·have hM := Lib.hid (endsS_succ seed leaf k hlt)
   have h16a := secretS_len seed leaf (k : Int)
   have h16b := Lib.hid (climbS_len (secretS seed leaf k) leaf k 0 3 (secretS_len seed leaf k))
   go_wp2_with (refine wl_load_at rfl 41 (.tmp 2) rfl w.heap.size _ _ (hI.at_ 2 rfl) rfl _ Try.underlying41 rfl (by rw [List.length_map, hsl.out]; kernel_rfl) ?_)
   refine (Secret_any wr seed leaf k hsl.out).mono ?_
   rintro e w3 ⟨rfl, hb3⟩
   have hI3 := hI.call hb3
   have hs3 := hb3.size
   clear hI hb3
   go_wp2_with fail
   refine (Climb_any w3 (secretS seed leaf k) leaf k 0 3 h16a).mono ?_
   rintro e w4 ⟨rfl, hb4⟩
   have hI4 := hI3.call hb4
   have hs4 := hb4.size
   clear hI3 hb4 h16a
   generalize climbS (secretS seed leaf k) leaf k 0 3 = x at *
   go_wp2_with (first | (refine wl_lit1 els_half rfl _ rfl (x.map bv) rfl (by rw [List.length_map, h16b.out]) (by decide) ?_) | (at_builtin; refine wl_app_at els_half (hI4.alloc _) 0 rfl (.tmp 10) (.tmp 18) rfl (w.heap.size + 2) _ _ _ _ rfl rfl (w4.heap.size + 1) _ 1 1 (x.map bv) rfl (Rd.lit w4 (x.map bv).toArray _ 1 (by rw [List.size_toArray, List.length_map, h16b.out])) (bv_one _) (by omega) (by simp; omega) (by intro g hg _; simp [Apart, Res.apart] <;> omega) ?_; intro A5 c5 w5 hI5 hs5))
   refine ⟨⟨k + 1, A5, c5, by omega, by go_num, rfl, ?_, by first | omega | (simp at hs5; omega)⟩, by simp [intOf]; omega⟩
   rw [hM.out, ← hvs_snoc]
   exact hI5
  ·obtain rfl : k = 68 := by omega
   rw [List.take_of_length_le (by rw [endsS_len]; omega)] at hI
   have hE : Els wr wr.heap.size 16 A' 68 (hvs (endsS seed leaf)) := Els.of (hI.at_ 0 rfl : Go.Adm.Own wr _ 41 16 A' 68 c' _) (hvs_each (endsS_each seed leaf)) (by rw [hvs_len, endsS_len])
   have h16 := Lib.hid (publicS_len seed leaf)
   go_wp2_with fail
   refine (Combine_any wr wr.heap.size A' 68 c' leaf (endsS seed leaf) hE (endsS_each seed leaf) (Nat.le_refl _) (by decide)).mono ?_
   rintro e w5 ⟨rfl, hb⟩
   have hI5 := (hI.erase 0).call hb
   rw [show combineS leaf (endsS seed leaf) = publicS seed leaf from rfl]
   generalize hr : publicS seed leaf = r at *
   have HR := Lib.hid hr
   clear hr hb hI hE
   go_wp2_with (refine wl_store_at hI5 0 rfl 41 (.tmp 4) _ rfl (w.heap.size + 1) _ _ (r.map bv) rfl rfl rfl (by rw [List.length_map, h16.out]; rfl) (by rw [List.length_map, h16.out]; kernel_rfl) (bv_one _) (by simp [Apart, Res.apart, Low.parts, Low.els, Low.rd] <;> omega) ?_; intro w9 hI9 hs9)
   refine bodyPost_ret (v := .agg (r.map bv).toArray) ?_ rfl ⟨by rw [HR.out], (hI9.at_ 2 rfl).1⟩
   exact results_cell_row rfl _ _ (w.heap.size + 1) 41 (r.map bv).toArray (0, 0) _ rfl (hI9.at_ 0 rfl) Try.underlying41 rfl (by rw [List.size_toArray, List.length_map, h16.out]; kernel_rfl)

set_option maxRecDepth 100000 in
set_option maxHeartbeats 3200000 in
theorem refPublic_any (w : World) (seed : List UInt8) (leaf : Int) (hs : seed.length = 16) :
  Calls Try.prog 97 #[.agg (seed.map bv).toArray, .int .i64 leaf] w fun e w' => e = .returned (.agg ((publicS seed leaf).map bv).toArray) ∧ Below w.heap.size w w' := by
 have hR : All w [.kept w w.heap.size] := ⟨⟨Below.refl _ _, Nat.le_refl _⟩, trivial⟩
 have hsl := Lib.hid hs
 clear hs
 go_enter Try.func97, Try.ntmps97
 go_upto_region 1 with (fail)
 refine wp_gen ((hR.new (l := seed.map bv) _ 41 rfl rfl).new (l := List.replicate 16 (Value.int .u8 0)) _ 41 (g := w.heap.size + 1) (by simp) rfl) ?_
 intro W hW
 have hlt : w.heap.size + 1 < W.heap.size := Cells.lt (hW.at_ 0 rfl)
 have hI0 : All W [.own (w.heap.size + 2) 41 16 none 0 0 [], .cells (w.heap.size + 1) 41 (List.replicate 16 (.int .u8 0)), .cells w.heap.size 41 (seed.map bv), .kept w w.heap.size] := ⟨Go.Adm.Own.nil _ _ _ _, hW⟩
 clear hW
 go_wp2
 go_loopw [5, 6] (fun v i wr => ∃ (k : Nat) (A' : Option Addr) (c' : Nat), k ≤ 68 ∧ i = .int .i64 k ∧ v = .slice A' k c' ∧
  All wr [.own (w.heap.size + 2) 41 16 A' k c' (hvs ((endsS seed leaf).take k)).flatten, .cells (w.heap.size + 1) 41 (List.replicate 16 (.int .u8 0)), .cells w.heap.size 41 (seed.map bv), .kept w w.heap.size] ∧ w.heap.size + 2 ≤ wr.heap.size) (fun _ i _ => 68 - (intOf i).toNat)
 case atStart => exact ⟨0, none, 0, by omega, rfl, rfl, hI0, hlt⟩
 case round =>
  obtain ⟨k, A', c', hk, rfl, rfl, hI, hsz⟩ := hrel
  by_cases hlt : k < 68
  ·have hM := Lib.hid (endsS_succ seed leaf k hlt)
   have h16a := secretS_len seed leaf (k : Int)
   have h16b := Lib.hid (climbS_len (secretS seed leaf k) leaf k 0 3 (secretS_len seed leaf k))
   go_wp2_with (refine wl_load_at rfl 41 (.tmp 2) rfl w.heap.size _ _ (hI.at_ 2 rfl) rfl _ Try.underlying41 rfl (by rw [List.length_map, hsl.out]; kernel_rfl) ?_)
   refine (refSecret_any wr seed leaf k hsl.out).mono ?_
   rintro e w3 ⟨rfl, hb3⟩
   have hI3 := hI.call hb3
   have hs3 := hb3.size
   clear hI hb3
   go_wp2_with fail
   refine (refClimb_any w3 (secretS seed leaf k) leaf k 0 3 h16a).mono ?_
   rintro e w4 ⟨rfl, hb4⟩
   have hI4 := hI3.call hb4
   have hs4 := hb4.size
   clear hI3 hb4 h16a
   generalize climbS (secretS seed leaf k) leaf k 0 3 = x at *
   go_wp2_with (first | (refine wl_lit1 els_half rfl _ rfl (x.map bv) rfl (by rw [List.length_map, h16b.out]) (by decide) ?_) | (at_builtin; refine wl_app_at els_half (hI4.alloc _) 0 rfl (.tmp 11) (.tmp 19) rfl (w.heap.size + 2) _ _ _ _ rfl rfl (w4.heap.size + 1) _ 1 1 (x.map bv) rfl (Rd.lit w4 (x.map bv).toArray _ 1 (by rw [List.size_toArray, List.length_map, h16b.out])) (bv_one _) (by omega) (by simp; omega) (by intro g hg _; simp [Apart, Res.apart] <;> omega) ?_; intro A5 c5 w5 hI5 hs5))
   refine ⟨⟨k + 1, A5, c5, by omega, by go_num, rfl, ?_, by first | omega | (simp at hs5; omega)⟩, by simp [intOf]; omega⟩
   rw [hM.out, ← hvs_snoc]
   exact hI5
  ·obtain rfl : k = 68 := by omega
   rw [List.take_of_length_le (by rw [endsS_len]; omega)] at hI
   have hE : Els wr wr.heap.size 16 A' 68 (hvs (endsS seed leaf)) := Els.of (hI.at_ 0 rfl : Go.Adm.Own wr _ 41 16 A' 68 c' _) (hvs_each (endsS_each seed leaf)) (by rw [hvs_len, endsS_len])
   have h16 := Lib.hid (publicS_len seed leaf)
   go_wp2_with fail
   refine (refCombine_any wr wr.heap.size A' 68 c' leaf (endsS seed leaf) hE (endsS_each seed leaf) (Nat.le_refl _) (by decide)).mono ?_
   rintro e w5 ⟨rfl, hb⟩
   have hI5 := (hI.erase 0).call hb
   rw [show combineS leaf (endsS seed leaf) = publicS seed leaf from rfl]
   generalize hr : publicS seed leaf = r at *
   have HR := Lib.hid hr
   clear hr hb hI hE
   go_wp2_with (refine wl_store_at hI5 0 rfl 41 (.tmp 4) _ rfl (w.heap.size + 1) _ _ (r.map bv) rfl rfl rfl (by rw [List.length_map, h16.out]; rfl) (by rw [List.length_map, h16.out]; kernel_rfl) (bv_one _) (by simp [Apart, Res.apart, Low.parts, Low.els, Low.rd] <;> omega) ?_; intro w9 hI9 hs9)
   refine bodyPost_ret (v := .agg (r.map bv).toArray) ?_ rfl ⟨by rw [HR.out], (hI9.at_ 2 rfl).1⟩
   exact results_cell_row rfl _ _ (w.heap.size + 1) 41 (r.map bv).toArray (0, 0) _ rfl (hI9.at_ 0 rfl) Try.underlying41 rfl (by rw [List.size_toArray, List.length_map, h16.out]; kernel_rfl)

end Go.Proofs.Ytfakjamocpamiaa

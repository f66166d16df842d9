/- Verify. refVerify. Same of lists of halves (ref 08) and low. low. Same of signatures (ref 09). Sign: the signer's cells, its results. Sign refused. Sign exhausted. What is signed verifies: the plain law. -/
import Derived.Test.YtfakjamocpamiaaKyD
import Derived.StillTailTactics
set_option linter.unusedSimpArgs false
set_option linter.unusedVariables false
namespace Go.Adm
open Go Go.RowKit
def pathF (k : Nat) (i : Nat) (x y : List UInt8) : List UInt8 := if i % 2 = 0 then joinS (k : Nat) ((i / 2 : Nat) : Int) x y else joinS (k : Nat) ((i / 2 : Nat) : Int) y x
theorem pathF_len (k i : Nat) (x y : List UInt8) : (pathF k i x y).length = 16 := by unfold pathF; split <;> exact joinS_len _ _ _ _
def pathN (x : List UInt8) (leaf : Nat) (path : List (List UInt8)) : Nat → List UInt8
 | 0 => x
 | k + 1 => pathF k (leaf / 2 ^ k) (pathN x leaf path k) (path.getD k [])
theorem pathN_len (x : List UInt8) (leaf : Nat) (path : List (List UInt8)) (hx : x.length = 16) : ∀ k, (pathN x leaf path k).length = 16
 | 0 => hx
 | _ + 1 => pathF_len _ _ _ _
def verifyB (h leaf : Int) (root d : List UInt8) (chain path : List (List UInt8)) : Bool :=
 shapedB h leaf chain.length path.length && decide (pathN (recS leaf d chain) leaf.toNat path path.length = root)
end Go.Adm
namespace Go.Proofs.Ytfakjamocpamiaa
open Go Go.RowKit Go.Adm

set_option maxRecDepth 100000 in
set_option maxHeartbeats 3200000 in
theorem Verify_any (w : World) (B : Nat) (h leaf : Int) (root d : List UInt8) (chain path : List (List UInt8)) (Ac : Option Addr) (cc : Nat) (Ap : Option Addr) (cp : Nat) (hr : root.length = 16) (hd : d.length = 32)
  (hc : Els w B 16 Ac chain.length (hvs chain)) (hc16 : ∀ x ∈ chain, x.length = 16) (hp : Els w B 16 Ap path.length (hvs path)) (hp16 : ∀ x ∈ path, x.length = 16) (hB : B ≤ w.heap.size) :
  Calls Try.prog 56 #[.agg (pkCells h root).toArray, .agg (d.map bv).toArray, .agg (sgCells leaf Ac chain.length cc Ap path.length cp).toArray] w fun e w' => e = .returned (.bool (verifyB h leaf root d chain path)) ∧ Below w.heap.size w w' := by
 have hR : All w [.low (.els B 16 Ac chain.length (hvs chain)), .low (.els B 16 Ap path.length (hvs path)), .kept w w.heap.size] := ⟨⟨hc, hB⟩, ⟨hp, hB⟩, ⟨Below.refl _ _, Nat.le_refl _⟩, trivial⟩
 have hrl := Lib.hid hr
 have hdl := Lib.hid hd
 have HC16 := Lib.hid hc16
 have HP16 := Lib.hid hp16
 clear hr hd hc hc16 hp hp16
 go_enter Try.func56, Try.ntmps56
 go_upto_region 1 with (fail)
 refine wp_gen (((hR.new (pkCells h root).toArray 62 rfl rfl).new (d.map bv).toArray 37 (g := w.heap.size + 1) (by simp) rfl).new (sgCells leaf Ac chain.length cc Ap path.length cp).toArray 60 (g := w.heap.size + 1 + 1) (by simp) rfl) ?_
 intro W hW
 go_wp2_with (first | (refine wl_load_at rfl 62 (.tmp 3) rfl w.heap.size _ _ (hW.at_ 2 rfl) rfl _ Try.underlying62 rfl (by rw [pk_len _ _ hrl.out]; kernel_rfl) ?_) | (refine wl_load_at rfl 60 (.tmp 5) rfl (w.heap.size + 1 + 1) _ _ (hW.at_ 0 rfl) rfl _ Try.underlying60 rfl (by kernel_rfl) ?_))
 refine (Shaped_any W root hrl.out leaf Ac chain.length cc Ap path.length cp h).mono ?_
 rintro e V ⟨rfl, hb⟩
 have hV := hW.call hb
 clear hW hb
 cases hs : shapedB h leaf chain.length path.length with
 | false =>
  have hv : Hid (verifyB h leaf root d chain path = false) := Lib.hid (by simp [verifyB, hs])
  clear hs
  go_wp2
  go_ret
  exact ⟨by rw [hv.out]; rfl, (hV.at_ 5 rfl).1⟩
 | true =>
  have hv : Hid (verifyB h leaf root d chain path = decide (pathN (recS leaf d chain) leaf.toNat path path.length = root)) := Lib.hid (by simp [verifyB, hs])
  obtain ⟨⟨h0, h6⟩, hl0, hl1, hc68, hph⟩ := (shapedB_iff h leaf chain.length path.length).1 hs
  obtain ⟨kh, rfl⟩ := Int.eq_ofNat_of_zero_le h0
  obtain ⟨kl, rfl⟩ := Int.eq_ofNat_of_zero_le hl0
  rw [Int.toNat_natCast] at hl1
  have hkl : kl < 2 ^ kh := by omega
  have hp64 := (pow_le64 kh (by omega)).2
  have hpl : path.length ≤ 6 := by omega
  have hkl64 : kl < 64 := by omega
  rw [Int.toNat_natCast] at hv
  have HC68 := Lib.hid hc68
  have cc1 : V.cell? ⟨w.heap.size + 1 + 1, 0, none⟩ = some (.int .i64 kl) := Cells.cell (hV.at_ 0 rfl) (i := 0) (by simp [sgCells])
  have cc3 : V.cell? ⟨w.heap.size + 1 + 1, 1, none⟩ = some (.slice Ac chain.length cc) := Cells.cell (hV.at_ 0 rfl) (i := 1) (by simp [sgCells])
  clear hs h0 h6 hl0 hl1 hph hkl hp64 hc68
  go_wp2_with (refine wl_load_at rfl 37 (.tmp 4) rfl (w.heap.size + 1) _ _ (hV.at_ 1 rfl) rfl _ Try.underlying37 rfl (by rw [List.length_map, hdl.out]; kernel_rfl) ?_)
  have hE := (hV.at_ 3 rfl).1
  have hE' : Els V B 16 Ac 68 (hvs chain) := by rw [← HC68.out]; exact hE
  rw [HC68.out]
  refine (Recover_any V B Ac cc kl d chain hE' HC16.out hdl.out (by have := (hV.at_ 3 rfl).2; exact this)).mono ?_
  rintro e V2 ⟨rfl, hb2⟩
  have hV2 := hV.call hb2
  have h16 := Lib.hid (recS_len kl d chain)
  have hlw := Cells.lt (hV2.at_ 0 rfl)
  clear hV hE hE' cc1 cc3 hb2
  generalize hx0 : recS (kl : Int) d chain = x0 at *
  have HX0 := Lib.hid hx0
  clear hx0
  go_wp2_with (refine wl_store_at (hV2.new _ _ rfl rfl) 0 rfl 41 (.tmp 7) _ rfl V2.heap.size _ _ (x0.map bv) rfl rfl rfl (by rw [List.length_map, h16.out]; rfl) (by rw [List.length_map, h16.out]; kernel_rfl) (bv_one _) (by simp [Apart, Res.apart, Low.els] <;> omega) ?_; intro w5 hI5 hs5; have cc5 : w5.cell? ⟨w.heap.size + 1 + 1, 0, none⟩ = some (.int .i64 kl) := Cells.cell (hI5.at_ 1 rfl) (i := 0) (by simp [sgCells]); have cc6 : w5.cell? ⟨w.heap.size + 1 + 1, 2, none⟩ = some (.slice Ap path.length cp) := Cells.cell (hI5.at_ 1 rfl) (i := 2) (by simp [sgCells]))
  clear hV2 hs5 cc5 cc6
  go_loopw [9, 30] (fun i j wr => ∃ k iv : Nat, k ≤ path.length ∧ j = .int .i64 k ∧ i = .int .i64 iv ∧ Hid (iv = kl / 2 ^ k) ∧ iv < 64 ∧ All wr [.cells V2.heap.size 41 ((pathN x0 kl path k).map bv), .cells (w.heap.size + 1 + 1) 60 (sgCells kl Ac chain.length cc Ap path.length cp), .cells (w.heap.size + 1) 37 (d.map bv), .cells w.heap.size 62 (pkCells kh root), .low (.els B 16 Ac chain.length (hvs chain)), .low (.els B 16 Ap path.length (hvs path)), .kept w w.heap.size]) (fun _ j _ => path.length - (intOf j).toNat)
  case atStart => exact ⟨0, kl, by omega, rfl, rfl, Lib.hid (by simp), hkl64, hI5⟩
  case round =>
   obtain ⟨k, iv, hk, rfl, rfl, HI, hiv, hI⟩ := hrel
   have hz16 := Lib.hid (pathN_len x0 kl path h16.out k)
   by_cases hlt : k < path.length
   ·obtain ⟨ad, rfl, _, hcs⟩ := Els.half (hI.2.2.2.2.2.1.1 : Els wr B 16 _ path.length (hvs path)) hlt
    have HCS := Lib.hid hcs
    have hy16 : Hid (path[k].length = 16) := Lib.hid (HP16.out _ (List.getElem_mem hlt))
    have hnx : Hid (pathN x0 kl path (k + 1) = pathF k iv (pathN x0 kl path k) path[k]) := Lib.hid (by rw [pathN, ← HI.out]; simp [List.getD, hlt])
    have hdv : Hid (iv / 2 = kl / 2 ^ (k + 1)) := Lib.hid (by rw [HI.out, Nat.pow_succ, Nat.div_div_eq_div_mul])
    have hlw2 := Cells.lt (hI.at_ 0 rfl)
    clear hcs
    generalize pathN x0 kl path k = z at *
    generalize path[k] = y at *
    have hq : ((iv : Int) / 2) = ((iv / 2 : Nat) : Int) := by omega
    by_cases hpar : iv % 2 = 0
    ·have dp : ((iv : Int) % 2 == 0) = true := by simp; omega
     have hpf : Hid (pathF k iv z y = joinS (k : Nat) ((iv : Int) / 2) z y) := Lib.hid (by unfold pathF; rw [if_pos hpar, hq])
     clear hpar hq
     go_wp2_with (first | (refine wl_load_any rfl 41 (.tmp 33) rfl (ad.add (k * 16)) rfl (y.map bv) _ HCS.out Try.underlying41 rfl (by rw [List.length_map, hy16.out]; kernel_rfl) ?_) | (refine wl_store_at (hI.new _ _ rfl rfl) 0 rfl 41 (.tmp 11) _ rfl wr.heap.size _ _ (y.map bv) rfl rfl rfl (by rw [List.length_map, hy16.out]; rfl) (by rw [List.length_map, hy16.out]; kernel_rfl) (bv_one _) (by simp [Apart, Res.apart, Low.els] <;> omega) ?_; intro w6 hI6 hs6) | (refine wl_load_at rfl 41 (.tmp 7) rfl V2.heap.size _ _ (hI6.at_ 1 rfl) rfl _ Try.underlying41 rfl (by rw [List.length_map, hz16.out]; kernel_rfl) ?_) | (refine wl_load_at rfl 41 (.tmp 11) rfl wr.heap.size _ _ (hI6.at_ 0 rfl) rfl _ Try.underlying41 rfl (by rw [List.length_map, hy16.out]; kernel_rfl) ?_))
     refine (Join_any w6 z y k ((iv : Int) / 2) hz16.out hy16.out).mono ?_
     rintro e w7 ⟨rfl, hb7⟩
     have hI7 := hI6.call hb7
     have hj16 := Lib.hid (joinS_len (k : Nat) ((iv : Int) / 2) z y)
     rw [← hpf.out] at hj16 ⊢
     clear hI hI6 hb7
     generalize pathF k iv z y = q at *
     go_wp2_with (refine wl_store_at hI7 1 rfl 41 (.tmp 7) _ rfl V2.heap.size _ _ (q.map bv) rfl rfl rfl (by rw [List.length_map, hj16.out, List.length_map, hz16.out]) (by rw [List.length_map, hj16.out]; kernel_rfl) (bv_one _) (by simp [Apart, Res.apart, Low.els] <;> omega) ?_; intro w9 hI9 hs9)
     exact ⟨⟨k + 1, iv / 2, by omega, by go_num, congrArg (Value.int .i64) (by omega), hdv, by omega, by rw [hnx.out]; exact hI9.erase 0⟩, by simp [intOf]; omega⟩
    ·have dp : ((iv : Int) % 2 == 0) = false := by simp; omega
     have hpf : Hid (pathF k iv z y = joinS (k : Nat) ((iv : Int) / 2) y z) := Lib.hid (by unfold pathF; rw [if_neg hpar, hq])
     clear hpar hq
     go_wp2_with (first | (refine wl_load_any rfl 41 (.tmp 33) rfl (ad.add (k * 16)) rfl (y.map bv) _ HCS.out Try.underlying41 rfl (by rw [List.length_map, hy16.out]; kernel_rfl) ?_) | (refine wl_store_at (hI.new _ _ rfl rfl) 0 rfl 41 (.tmp 11) _ rfl wr.heap.size _ _ (y.map bv) rfl rfl rfl (by rw [List.length_map, hy16.out]; rfl) (by rw [List.length_map, hy16.out]; kernel_rfl) (bv_one _) (by simp [Apart, Res.apart, Low.els] <;> omega) ?_; intro w6 hI6 hs6) | (refine wl_load_at rfl 41 (.tmp 7) rfl V2.heap.size _ _ (hI6.at_ 1 rfl) rfl _ Try.underlying41 rfl (by rw [List.length_map, hz16.out]; kernel_rfl) ?_) | (refine wl_load_at rfl 41 (.tmp 11) rfl wr.heap.size _ _ (hI6.at_ 0 rfl) rfl _ Try.underlying41 rfl (by rw [List.length_map, hy16.out]; kernel_rfl) ?_))
     refine (Join_any w6 y z k ((iv : Int) / 2) hy16.out hz16.out).mono ?_
     rintro e w7 ⟨rfl, hb7⟩
     have hI7 := hI6.call hb7
     have hj16 := Lib.hid (joinS_len (k : Nat) ((iv : Int) / 2) y z)
     rw [← hpf.out] at hj16 ⊢
     clear hI hI6 hb7
     generalize pathF k iv z y = q at *
     go_wp2_with (refine wl_store_at hI7 1 rfl 41 (.tmp 7) _ rfl V2.heap.size _ _ (q.map bv) rfl rfl rfl (by rw [List.length_map, hj16.out, List.length_map, hz16.out]) (by rw [List.length_map, hj16.out]; kernel_rfl) (bv_one _) (by simp [Apart, Res.apart, Low.els] <;> omega) ?_; intro w9 hI9 hs9)
     exact ⟨⟨k + 1, iv / 2, by omega, by go_num, congrArg (Value.int .i64) (by omega), hdv, by omega, by rw [hnx.out]; exact hI9.erase 0⟩, by simp [intOf]; omega⟩
   ·have hkp : Hid (pathN x0 kl path k = pathN x0 kl path path.length) := Lib.hid (by rw [show k = path.length from by omega])
    have hrt : ∀ j u, (root.map bv)[j]? = some u → wr.cell? ((⟨w.heap.size, 1, none⟩ : Addr).add j) = some u := fun j u hu => by
     have := (Cells.rd (hI.at_ 3 rfl : Cells wr w.heap.size _ (pkCells kh root)) (o := 1) (n := 16) (by simp [pkCells, hrl.out])).at_ (by omega)
     obtain ⟨ad, e, _, hc⟩ := this
     injection e with e
     subst e
     refine hc j u ?_
     rw [show ((pkCells (kh : Int) root).drop 1).take 16 = root.map bv from by show (root.map bv).take 16 = _; rw [List.take_of_length_le (by rw [List.length_map, hrl.out]; omega)]]
     exact hu
    have HRT := Lib.hid hrt
    have hvv : Hid (verifyB (kh : Int) (kl : Int) root d chain path = decide (pathN x0 kl path k = root)) := Lib.hid (by rw [hv.out, hkp.out])
    have heq := fun W => eq_half W (pathN x0 kl path k) root hz16.out hrl.out
    clear hrt hkp
    generalize pathN x0 kl path k = z at *
    go_wp2_with (first | (refine wl_load_at rfl 41 (.tmp 7) rfl V2.heap.size _ _ (hI.at_ 0 rfl) rfl _ Try.underlying41 rfl (by rw [List.length_map, hz16.out]; kernel_rfl) ?_) | (refine wl_load_any rfl 41 (.tmp 54) rfl ⟨w.heap.size, 1, none⟩ rfl (root.map bv) _ HRT.out Try.underlying41 rfl (by rw [List.length_map, hrl.out]; kernel_rfl) ?_))
    go_ret
    exact ⟨by rw [hvv.out]; rfl, (hI.at_ 6 rfl).1⟩

end Go.Proofs.Ytfakjamocpamiaa
set_option linter.unusedSimpArgs false
set_option linter.unusedVariables false
namespace Go.Proofs.Ytfakjamocpamiaa
open Go Go.RowKit Go.Adm

set_option maxRecDepth 100000 in
set_option maxHeartbeats 3200000 in
theorem refVerify_any (w : World) (B : Nat) (h leaf : Int) (root d : List UInt8) (chain path : List (List UInt8)) (Ac : Option Addr) (cc : Nat) (Ap : Option Addr) (cp : Nat) (hr : root.length = 16) (hd : d.length = 32)
  (hc : Els w B 16 Ac chain.length (hvs chain)) (hc16 : ∀ x ∈ chain, x.length = 16) (hp : Els w B 16 Ap path.length (hvs path)) (hp16 : ∀ x ∈ path, x.length = 16) (hB : B ≤ w.heap.size) :
  Calls Try.prog 58 #[.agg (pkCells h root).toArray, .agg (d.map bv).toArray, .agg (sgCells leaf Ac chain.length cc Ap path.length cp).toArray] w fun e w' => e = .returned (.bool (verifyB h leaf root d chain path)) ∧ Below w.heap.size w w' := by
 have hR : All w [.low (.els B 16 Ac chain.length (hvs chain)), .low (.els B 16 Ap path.length (hvs path)), .kept w w.heap.size] := ⟨⟨hc, hB⟩, ⟨hp, hB⟩, ⟨Below.refl _ _, Nat.le_refl _⟩, trivial⟩
 have hrl := Lib.hid hr
 have hdl := Lib.hid hd
 have HC16 := Lib.hid hc16
 have HP16 := Lib.hid hp16
 clear hr hd hc hc16 hp hp16
 go_enter Try.func58, Try.ntmps58
 go_upto_region 1 with (fail)
 refine wp_gen (((hR.new (pkCells h root).toArray 62 rfl rfl).new (d.map bv).toArray 37 (g := w.heap.size + 1) (by simp) rfl).new (sgCells leaf Ac chain.length cc Ap path.length cp).toArray 60 (g := w.heap.size + 1 + 1) (by simp) rfl) ?_
 intro W hW
 go_wp2_with (first | (refine wl_load_at rfl 62 (.tmp 3) rfl w.heap.size _ _ (hW.at_ 2 rfl) rfl _ Try.underlying62 rfl (by rw [pk_len _ _ hrl.out]; kernel_rfl) ?_) | (refine wl_load_at rfl 60 (.tmp 5) rfl (w.heap.size + 1 + 1) _ _ (hW.at_ 0 rfl) rfl _ Try.underlying60 rfl (by kernel_rfl) ?_))
 refine (refShaped_any W root hrl.out leaf Ac chain.length cc Ap path.length cp h).mono ?_
 rintro e V ⟨rfl, hb⟩
 have hV := hW.call hb
 clear hW hb
 cases hs : shapedB h leaf chain.length path.length with
 | false =>
  have hv : Hid (verifyB h leaf root d chain path = false) := Lib.hid (by simp [verifyB, hs])
  clear hs
  go_wp2
  go_ret
  exact ⟨by rw [hv.out]; rfl, (hV.at_ 5 rfl).1⟩
 | true =>
  have hv : Hid (verifyB h leaf root d chain path = decide (pathN (recS leaf d chain) leaf.toNat path path.length = root)) := Lib.hid (by simp [verifyB, hs])
  obtain ⟨⟨h0, h6⟩, hl0, hl1, hc68, hph⟩ := (shapedB_iff h leaf chain.length path.length).1 hs
  obtain ⟨kh, rfl⟩ := Int.eq_ofNat_of_zero_le h0
  obtain ⟨kl, rfl⟩ := Int.eq_ofNat_of_zero_le hl0
  rw [Int.toNat_natCast] at hl1
  have hkl : kl < 2 ^ kh := by omega
  have hp64 := (pow_le64 kh (by omega)).2
  have hpl : path.length ≤ 6 := by omega
  have hkl64 : kl < 64 := by omega
  rw [Int.toNat_natCast] at hv
  have HC68 := Lib.hid hc68
  have cc1 : V.cell? ⟨w.heap.size + 1 + 1, 0, none⟩ = some (.int .i64 kl) := Cells.cell (hV.at_ 0 rfl) (i := 0) (by simp [sgCells])
  have cc3 : V.cell? ⟨w.heap.size + 1 + 1, 1, none⟩ = some (.slice Ac chain.length cc) := Cells.cell (hV.at_ 0 rfl) (i := 1) (by simp [sgCells])
  clear hs h0 h6 hl0 hl1 hph hkl hp64 hc68
  go_wp2_with (refine wl_load_at rfl 37 (.tmp 4) rfl (w.heap.size + 1) _ _ (hV.at_ 1 rfl) rfl _ Try.underlying37 rfl (by rw [List.length_map, hdl.out]; kernel_rfl) ?_)
  have hE := (hV.at_ 3 rfl).1
  have hE' : Els V B 16 Ac 68 (hvs chain) := by rw [← HC68.out]; exact hE
  rw [HC68.out]
  refine (refRecover_any V B Ac cc kl d chain hE' HC16.out hdl.out (by have := (hV.at_ 3 rfl).2; exact this)).mono ?_
  rintro e V2 ⟨rfl, hb2⟩
  have hV2 := hV.call hb2
  have h16 := Lib.hid (recS_len kl d chain)
  have hlw := Cells.lt (hV2.at_ 0 rfl)
  clear hV hE hE' cc1 cc3 hb2
  generalize hx0 : recS (kl : Int) d chain = x0 at *
  have HX0 := Lib.hid hx0
  clear hx0
  go_wp2_with (refine wl_store_at (hV2.new _ _ rfl rfl) 0 rfl 41 (.tmp 7) _ rfl V2.heap.size _ _ (x0.map bv) rfl rfl rfl (by rw [List.length_map, h16.out]; rfl) (by rw [List.length_map, h16.out]; kernel_rfl) (bv_one _) (by simp [Apart, Res.apart, Low.els] <;> omega) ?_; intro w5 hI5 hs5; have cc5 : w5.cell? ⟨w.heap.size + 1 + 1, 0, none⟩ = some (.int .i64 kl) := Cells.cell (hI5.at_ 1 rfl) (i := 0) (by simp [sgCells]); have cc6 : w5.cell? ⟨w.heap.size + 1 + 1, 2, none⟩ = some (.slice Ap path.length cp) := Cells.cell (hI5.at_ 1 rfl) (i := 2) (by simp [sgCells]))
  clear hV2 hs5 cc5 cc6
  go_loopw [9, 10] (fun i j wr => ∃ k iv : Nat, k ≤ path.length ∧ j = .int .i64 k ∧ i = .int .i64 iv ∧ Hid (iv = kl / 2 ^ k) ∧ iv < 64 ∧ All wr [.cells V2.heap.size 41 ((pathN x0 kl path k).map bv), .cells (w.heap.size + 1 + 1) 60 (sgCells kl Ac chain.length cc Ap path.length cp), .cells (w.heap.size + 1) 37 (d.map bv), .cells w.heap.size 62 (pkCells kh root), .low (.els B 16 Ac chain.length (hvs chain)), .low (.els B 16 Ap path.length (hvs path)), .kept w w.heap.size]) (fun _ j _ => path.length - (intOf j).toNat)
  case atStart => exact ⟨0, kl, by omega, rfl, rfl, Lib.hid (by simp), hkl64, hI5⟩
  case round =>
   obtain ⟨k, iv, hk, rfl, rfl, HI, hiv, hI⟩ := hrel
   have hz16 := Lib.hid (pathN_len x0 kl path h16.out k)
   by_cases hlt : k < path.length
   ·obtain ⟨ad, rfl, _, hcs⟩ := Els.half (hI.2.2.2.2.2.1.1 : Els wr B 16 _ path.length (hvs path)) hlt
    have HCS := Lib.hid hcs
    have hy16 : Hid (path[k].length = 16) := Lib.hid (HP16.out _ (List.getElem_mem hlt))
    have hnx : Hid (pathN x0 kl path (k + 1) = pathF k iv (pathN x0 kl path k) path[k]) := Lib.hid (by rw [pathN, ← HI.out]; simp [List.getD, hlt])
    have hdv : Hid (iv / 2 = kl / 2 ^ (k + 1)) := Lib.hid (by rw [HI.out, Nat.pow_succ, Nat.div_div_eq_div_mul])
    have hlw2 := Cells.lt (hI.at_ 0 rfl)
    clear hcs
    generalize pathN x0 kl path k = z at *
    generalize path[k] = y at *
    have hq : ((iv : Int) / 2) = ((iv / 2 : Nat) : Int) := by omega
    by_cases hpar : iv % 2 = 0
    ·have dp : ((iv : Int) % 2 == 0) = true := by simp; omega
     have hpf : Hid (pathF k iv z y = joinS (k : Nat) ((iv : Int) / 2) z y) := Lib.hid (by unfold pathF; rw [if_pos hpar, hq])
     clear hpar hq
     have cp0 : wr.cell? ⟨w.heap.size + 1 + 1, 2, none⟩ = some (.slice (some ad) path.length cp) := Cells.cell (hI.at_ 1 rfl) (i := 2) (by simp [sgCells])
     have wk0 : (0 : Int) ≤ (k : Int) := by omega
     have wk1 : (k : Int) < (path.length : Int) := by omega
     have wk2 : ((k : Int)).toNat = k := by omega
     have wq : IntKind.i64.wrap ((iv : Int) / 2) = (iv : Int) / 2 := IntWalk.i64_in _ (by omega)
     go_wp2
     have hD := hI.drew
     refine wp_region_still_tail 9 (by kernel_rfl) (by kernel_rfl) ?_
     simp only [List.take_succ_cons, List.take_zero, List.drop_succ_cons, List.drop_zero]
     repeat first | (refine still_load_all rfl 41 _ rfl V2.heap.size 0 rfl (z.map bv) _ (hD.at_ 0 rfl).range Try.underlying41 rfl (by rw [List.length_map, hz16.out]; kernel_rfl) ?_) | (refine still_load_any rfl 41 _ rfl (ad.add (k * 16)) rfl (y.map bv) _ HCS.out Try.underlying41 rfl (by rw [List.length_map, hy16.out]; kernel_rfl) ?_) | still_step
     refine wpStill_nil ?_
     change wpList _ _ _ _ _ wr.drew
     have hlw3 := Cells.lt (hD.at_ 0 rfl)
     clear hI cp0 HCS
     generalize wr.drew = w6 at *
     go_wp2_with fail
     refine (refJoin_any w6 z y k ((iv : Int) / 2) hz16.out hy16.out).mono ?_
     rintro e w7 ⟨rfl, hb7⟩
     have hI7 := hD.call hb7
     have hj16 := Lib.hid (joinS_len (k : Nat) ((iv : Int) / 2) z y)
     rw [← hpf.out] at hj16 ⊢
     clear hD hb7
     generalize pathF k iv z y = q at *
     go_wp2_with (refine wl_store_at hI7 0 rfl 41 (.tmp 7) _ rfl V2.heap.size _ _ (q.map bv) rfl rfl rfl (by rw [List.length_map, hj16.out, List.length_map, hz16.out]) (by rw [List.length_map, hj16.out]; kernel_rfl) (bv_one _) (by simp [Apart, Res.apart, Low.els] <;> omega) ?_; intro w9 hI9 hs9)
     exact ⟨⟨k + 1, iv / 2, by omega, by go_num, congrArg (Value.int .i64) (by omega), hdv, by omega, by rw [hnx.out]; exact hI9⟩, by simp [intOf]; omega⟩
    ·have dp : ((iv : Int) % 2 == 0) = false := by simp; omega
     have hpf : Hid (pathF k iv z y = joinS (k : Nat) ((iv : Int) / 2) y z) := Lib.hid (by unfold pathF; rw [if_neg hpar, hq])
     clear hpar hq
     have cp0 : wr.cell? ⟨w.heap.size + 1 + 1, 2, none⟩ = some (.slice (some ad) path.length cp) := Cells.cell (hI.at_ 1 rfl) (i := 2) (by simp [sgCells])
     have wk0 : (0 : Int) ≤ (k : Int) := by omega
     have wk1 : (k : Int) < (path.length : Int) := by omega
     have wk2 : ((k : Int)).toNat = k := by omega
     have wq : IntKind.i64.wrap ((iv : Int) / 2) = (iv : Int) / 2 := IntWalk.i64_in _ (by omega)
     go_wp2
     have hD := hI.drew
     refine wp_region_still_tail 9 (by kernel_rfl) (by kernel_rfl) ?_
     simp only [List.take_succ_cons, List.take_zero, List.drop_succ_cons, List.drop_zero]
     repeat first | (refine still_load_all rfl 41 _ rfl V2.heap.size 0 rfl (z.map bv) _ (hD.at_ 0 rfl).range Try.underlying41 rfl (by rw [List.length_map, hz16.out]; kernel_rfl) ?_) | (refine still_load_any rfl 41 _ rfl (ad.add (k * 16)) rfl (y.map bv) _ HCS.out Try.underlying41 rfl (by rw [List.length_map, hy16.out]; kernel_rfl) ?_) | still_step
     refine wpStill_nil ?_
     change wpList _ _ _ _ _ wr.drew
     have hlw3 := Cells.lt (hD.at_ 0 rfl)
     clear hI cp0 HCS
     generalize wr.drew = w6 at *
     go_wp2_with fail
     refine (refJoin_any w6 y z k ((iv : Int) / 2) hy16.out hz16.out).mono ?_
     rintro e w7 ⟨rfl, hb7⟩
     have hI7 := hD.call hb7
     have hj16 := Lib.hid (joinS_len (k : Nat) ((iv : Int) / 2) y z)
     rw [← hpf.out] at hj16 ⊢
     clear hD hb7
     generalize pathF k iv z y = q at *
     go_wp2_with (refine wl_store_at hI7 0 rfl 41 (.tmp 7) _ rfl V2.heap.size _ _ (q.map bv) rfl rfl rfl (by rw [List.length_map, hj16.out, List.length_map, hz16.out]) (by rw [List.length_map, hj16.out]; kernel_rfl) (bv_one _) (by simp [Apart, Res.apart, Low.els] <;> omega) ?_; intro w9 hI9 hs9)
     exact ⟨⟨k + 1, iv / 2, by omega, by go_num, congrArg (Value.int .i64) (by omega), hdv, by omega, by rw [hnx.out]; exact hI9⟩, by simp [intOf]; omega⟩
   ·have hkp : Hid (pathN x0 kl path k = pathN x0 kl path path.length) := Lib.hid (by rw [show k = path.length from by omega])
    have hrt : ∀ j u, (root.map bv)[j]? = some u → wr.cell? ((⟨w.heap.size, 1, none⟩ : Addr).add j) = some u := fun j u hu => by
     have := (Cells.rd (hI.at_ 3 rfl : Cells wr w.heap.size _ (pkCells kh root)) (o := 1) (n := 16) (by simp [pkCells, hrl.out])).at_ (by omega)
     obtain ⟨ad, e, _, hc⟩ := this
     injection e with e
     subst e
     refine hc j u ?_
     rw [show ((pkCells (kh : Int) root).drop 1).take 16 = root.map bv from by show (root.map bv).take 16 = _; rw [List.take_of_length_le (by rw [List.length_map, hrl.out]; omega)]]
     exact hu
    have HRT := Lib.hid hrt
    have hvv : Hid (verifyB (kh : Int) (kl : Int) root d chain path = decide (pathN x0 kl path k = root)) := Lib.hid (by rw [hv.out, hkp.out])
    have cp0 : wr.cell? ⟨w.heap.size + 1 + 1, 2, none⟩ = some (.slice Ap path.length cp) := Cells.cell (hI.at_ 1 rfl) (i := 2) (by simp [sgCells])
    have heq := fun W => eq_half W (pathN x0 kl path k) root hz16.out hrl.out
    clear hrt hkp
    generalize pathN x0 kl path k = z at *
    go_wp2_with (first | (refine wl_load_at rfl 41 (.tmp 7) rfl V2.heap.size _ _ (hI.at_ 0 rfl) rfl _ Try.underlying41 rfl (by rw [List.length_map, hz16.out]; kernel_rfl) ?_) | (refine wl_load_any rfl 41 (.tmp 59) rfl ⟨w.heap.size, 1, none⟩ rfl (root.map bv) _ HRT.out Try.underlying41 rfl (by rw [List.length_map, hrl.out]; kernel_rfl) ?_))
    go_ret
    exact ⟨by rw [hvv.out]; rfl, (hI.at_ 6 rfl).1⟩

end Go.Proofs.Ytfakjamocpamiaa
set_option linter.unusedSimpArgs false
set_option linter.unusedVariables false
namespace Go.Proofs.Ytfakjamocpamiaa
open Go Go.RowKit Go.Adm

theorem ne_half (w : World) (x y : List UInt8) (hx : x.length = 16) (hy : y.length = 16) : (binOp .neq 41 (.agg (x.map bv).toArray) (.agg (y.map bv).toArray)).run Try.prog w = .ok (.bool (!decide (x = y))) w := by
 have h := eq_half w x y hx hy
 rw [run_eql_struct] at h
 rw [run_neq_struct]
 revert h
 generalize (Op.equalIn 10000 41 (.agg (x.map bv).toArray) (.agg (y.map bv).toArray)).run Try.prog w = q
 intro h
 cases q with
 | ok b w' =>
  simp only [Result.andThen, Result.ok.injEq, Value.bool.injEq] at h ⊢
  exact ⟨by rw [h.1], h.2⟩
 | _ => simp [Result.andThen] at h
set_option maxRecDepth 100000 in
set_option maxHeartbeats 3200000 in
theorem refSame_els (w : World) (B : Nat) (A1 A2 : Option Addr) (c1 c2 : Nat) (xs ys : List (List UInt8)) (h1 : Els w B 16 A1 xs.length (hvs xs)) (hx : ∀ x ∈ xs, x.length = 16) (h2 : Els w B 16 A2 ys.length (hvs ys)) (hy : ∀ x ∈ ys, x.length = 16) (hn : xs.length < 1000) (hB : B ≤ w.heap.size) :
  Calls Try.prog 75 #[.slice A1 xs.length c1, .slice A2 ys.length c2] w fun e w' => e = .returned (.bool (decide (xs = ys))) ∧ Below w.heap.size w w' := by
 have hR : All w [.low (.els B 16 A1 xs.length (hvs xs)), .low (.els B 16 A2 ys.length (hvs ys)), .kept w w.heap.size] := ⟨⟨h1, hB⟩, ⟨h2, hB⟩, ⟨Below.refl _ _, Nat.le_refl _⟩, trivial⟩
 have HX := Lib.hid hx
 have HY := Lib.hid hy
 clear h1 h2 hx hy
 go_enter Try.func75, Try.ntmps75
 by_cases hl : xs.length = ys.length
 ·have db : (((xs.length : Int)) != (ys.length : Int)) = false := by simp; omega
  have HL := Lib.hid hl
  clear hl
  go_wp2
  go_loopw [5] (fun i wr => ∃ k : Nat, k ≤ xs.length ∧ i = .int .i64 k ∧ Hid (∀ j, j < k → xs[j]? = ys[j]?) ∧ All wr [.low (.els B 16 A1 xs.length (hvs xs)), .low (.els B 16 A2 ys.length (hvs ys)), .kept w w.heap.size]) (fun i _ => xs.length - (intOf i).toNat)
  case atStart => exact ⟨0, by omega, rfl, Lib.hid (fun j hj => absurd hj (by omega)), hR⟩
  case round =>
   obtain ⟨k, hk, rfl, HP, hI⟩ := hrel
   by_cases hlt : k < xs.length
   ·have hlt2 : k < ys.length := by rw [← HL.out]; exact hlt
    obtain ⟨ad, rfl, _, hcs⟩ := Els.half (hI.1.1 : Els wr B 16 _ xs.length (hvs xs)) hlt
    obtain ⟨ae, rfl, _, hct⟩ := Els.half (hI.2.1.1 : Els wr B 16 _ ys.length (hvs ys)) hlt2
    have HCS := Lib.hid hcs
    have HCT := Lib.hid hct
    have hx16 : Hid (xs[k].length = 16) := Lib.hid (HX.out _ (List.getElem_mem hlt))
    have hy16 : Hid (ys[k].length = 16) := Lib.hid (HY.out _ (List.getElem_mem hlt2))
    have ex : Hid (xs[k]? = some xs[k]) := Lib.hid (List.getElem?_eq_getElem hlt)
    have ey : Hid (ys[k]? = some ys[k]) := Lib.hid (List.getElem?_eq_getElem hlt2)
    have wk0 : (0 : Int) ≤ (k : Int) := by omega
    have wk1 : (k : Int) < (xs.length : Int) := by omega
    have wk3 : (k : Int) < (ys.length : Int) := by omega
    have wk2 : ((k : Int)).toNat = k := by omega
    clear hcs hct
    generalize xs[k] = x at *
    generalize ys[k] = y at *
    go_wp2
    have hD := hI.drew
    refine wp_region_still_tail 8 (by kernel_rfl) (by kernel_rfl) ?_
    simp only [List.take_succ_cons, List.take_zero, List.drop_succ_cons, List.drop_zero]
    repeat first | (refine still_load_any rfl 41 _ rfl (ad.add (k * 16)) rfl (x.map bv) _ HCS.out Try.underlying41 rfl (by rw [List.length_map, hx16.out]; kernel_rfl) ?_) | (refine still_load_any rfl 41 _ rfl (ae.add (k * 16)) rfl (y.map bv) _ HCT.out Try.underlying41 rfl (by rw [List.length_map, hy16.out]; kernel_rfl) ?_) | still_step
    refine wpStill_nil ?_
    change wpList _ _ _ _ _ wr.drew
    have heq := fun W => ne_half W x y hx16.out hy16.out
    clear hI HCS HCT
    generalize wr.drew = w6 at *
    by_cases hxy : x = y
    ·have dxy : decide (x = y) = true := by simp [hxy]
     have HP' : Hid (∀ j, j < k + 1 → xs[j]? = ys[j]?) := Lib.hid (fun j hj => by
      by_cases e : j = k
      ·subst e; rw [ex.out, ey.out, hxy]
      ·exact HP.out j (by omega))
     clear hxy
     go_wp2
     exact ⟨⟨k + 1, by omega, by go_num, HP', hD⟩, by simp [intOf]; omega⟩
    ·have dxy : decide (x = y) = false := by simp [hxy]
     have hv : Hid (decide (xs = ys) = false) := Lib.hid (by
      simp only [decide_eq_false_iff_not]
      intro e
      have := ex.out
      rw [e, ey.out] at this
      injection this with this
      exact hxy this.symm)
     clear hxy
     go_wp2
     go_ret
     exact ⟨by rw [hv.out]; rfl, hD.2.2.1.1⟩
   ·have hv : Hid (decide (xs = ys) = true) := Lib.hid (by
     simp only [decide_eq_true_eq]
     refine List.ext_getElem? fun j => ?_
     by_cases hj : j < k
     ·exact HP.out j hj
     ·rw [List.getElem?_eq_none (by omega), List.getElem?_eq_none (by have := HL.out; omega)])
    go_wp2
    go_ret
    exact ⟨by rw [hv.out]; rfl, hI.2.2.1.1⟩
 ·have db : (((xs.length : Int)) != (ys.length : Int)) = true := by simp; omega
  have hv : Hid (decide (xs = ys) = false) := Lib.hid (by
   simp only [decide_eq_false_iff_not]
   intro e
   exact hl (by rw [e]))
  clear hl
  go_wp2
  go_ret
  exact ⟨by rw [hv.out]; rfl, hR.2.2.1.1⟩

end Go.Proofs.Ytfakjamocpamiaa
namespace Go.Proofs.Ytfakjamocpamiaa
open Go Go.RowKit Go.Adm

end Go.Proofs.Ytfakjamocpamiaa
namespace Go.Proofs.Ytfakjamocpamiaa
open Go Go.RowKit Go.Adm

set_option maxRecDepth 100000 in
set_option maxHeartbeats 3200000 in
theorem refSame_sig (w : World) (B : Nat) (l1 l2 : Int) (A1 A2 P1 P2 : Option Addr) (c1 c2 p1 p2 : Nat) (xs ys us vs : List (List UInt8))
  (hx : Els w B 16 A1 xs.length (hvs xs)) (hx16 : ∀ x ∈ xs, x.length = 16) (hy : Els w B 16 A2 ys.length (hvs ys)) (hy16 : ∀ x ∈ ys, x.length = 16)
  (hu : Els w B 16 P1 us.length (hvs us)) (hu16 : ∀ x ∈ us, x.length = 16) (hv : Els w B 16 P2 vs.length (hvs vs)) (hv16 : ∀ x ∈ vs, x.length = 16) (hn : xs.length < 1000) (hm : us.length < 1000) (hB : B ≤ w.heap.size) :
  Calls Try.prog 48 #[.agg (sgCells l1 A1 xs.length c1 P1 us.length p1).toArray, .agg (sgCells l2 A2 ys.length c2 P2 vs.length p2).toArray] w fun e w' => e = .returned (.bool (decide (l1 = l2) && (decide (xs = ys) && decide (us = vs)))) ∧ Below w.heap.size w w' := by
 have hR : All w [.low (.els B 16 A1 xs.length (hvs xs)), .low (.els B 16 A2 ys.length (hvs ys)), .low (.els B 16 P1 us.length (hvs us)), .low (.els B 16 P2 vs.length (hvs vs)), .kept w w.heap.size] := ⟨⟨hx, hB⟩, ⟨hy, hB⟩, ⟨hu, hB⟩, ⟨hv, hB⟩, ⟨Below.refl _ _, Nat.le_refl _⟩, trivial⟩
 clear hx hy hu hv
 have HX := Lib.hid hx16
 have HY := Lib.hid hy16
 have HU := Lib.hid hu16
 have HV := Lib.hid hv16
 clear hx16 hy16 hu16 hv16
 go_enter Try.func48, Try.ntmps48
 go_upto_region 1 with (fail)
 refine wp_gen ((hR.new (sgCells l1 A1 xs.length c1 P1 us.length p1).toArray 60 rfl rfl).new (sgCells l2 A2 ys.length c2 P2 vs.length p2).toArray 60 (g := w.heap.size + 1) (by simp) rfl) ?_
 intro W hW
 have a00 : W.cell? ⟨w.heap.size, 0, none⟩ = some (.int .i64 l1) := Cells.cell (hW.at_ 1 rfl) (i := 0) (by simp [sgCells])
 have a01 : W.cell? ⟨w.heap.size, 1, none⟩ = some (.slice A1 xs.length c1) := Cells.cell (hW.at_ 1 rfl) (i := 1) (by simp [sgCells])
 have a02 : W.cell? ⟨w.heap.size, 2, none⟩ = some (.slice P1 us.length p1) := Cells.cell (hW.at_ 1 rfl) (i := 2) (by simp [sgCells])
 have a10 : W.cell? ⟨w.heap.size + 1, 0, none⟩ = some (.int .i64 l2) := Cells.cell (hW.at_ 0 rfl) (i := 0) (by simp [sgCells])
 have a11 : W.cell? ⟨w.heap.size + 1, 1, none⟩ = some (.slice A2 ys.length c2) := Cells.cell (hW.at_ 0 rfl) (i := 1) (by simp [sgCells])
 have a12 : W.cell? ⟨w.heap.size + 1, 2, none⟩ = some (.slice P2 vs.length p2) := Cells.cell (hW.at_ 0 rfl) (i := 2) (by simp [sgCells])
 by_cases hl : l1 = l2
 ·have dl : (l1 == l2) = true := by simp [hl]
  have dl' : Hid (decide (l1 = l2) = true) := Lib.hid (by simp [hl])
  clear hl
  go_wp2_with fail
  refine (refSame_els W B A1 A2 c1 c2 xs ys (hW.at_ 2 rfl).1 HX.out (hW.at_ 3 rfl).1 HY.out hn (hW.at_ 2 rfl).2).mono ?_
  rintro e V ⟨rfl, hb⟩
  have hV := hW.call hb
  clear hW hb a00 a01 a02 a10 a11 a12
  have b00 : V.cell? ⟨w.heap.size, 0, none⟩ = some (.int .i64 l1) := Cells.cell (hV.at_ 1 rfl) (i := 0) (by simp [sgCells])
  have b01 : V.cell? ⟨w.heap.size, 1, none⟩ = some (.slice A1 xs.length c1) := Cells.cell (hV.at_ 1 rfl) (i := 1) (by simp [sgCells])
  have b02 : V.cell? ⟨w.heap.size, 2, none⟩ = some (.slice P1 us.length p1) := Cells.cell (hV.at_ 1 rfl) (i := 2) (by simp [sgCells])
  have b10 : V.cell? ⟨w.heap.size + 1, 0, none⟩ = some (.int .i64 l2) := Cells.cell (hV.at_ 0 rfl) (i := 0) (by simp [sgCells])
  have b11 : V.cell? ⟨w.heap.size + 1, 1, none⟩ = some (.slice A2 ys.length c2) := Cells.cell (hV.at_ 0 rfl) (i := 1) (by simp [sgCells])
  have b12 : V.cell? ⟨w.heap.size + 1, 2, none⟩ = some (.slice P2 vs.length p2) := Cells.cell (hV.at_ 0 rfl) (i := 2) (by simp [sgCells])
  cases hq : decide (xs = ys) with
  | true =>
   go_wp2_with fail
   refine (refSame_els V B P1 P2 p1 p2 us vs (hV.at_ 4 rfl).1 HU.out (hV.at_ 5 rfl).1 HV.out hm (hV.at_ 4 rfl).2).mono ?_
   rintro e V2 ⟨rfl, hb2⟩
   have hV2 := hV.call hb2
   cases hq2 : decide (us = vs) with
   | true =>
    go_wp2
    go_ret
    exact ⟨by rw [dl'.out, hq, hq2]; rfl, (hV2.at_ 6 rfl).1⟩
   | false =>
    go_wp2
    go_ret
    exact ⟨by rw [dl'.out, hq, hq2]; rfl, (hV2.at_ 6 rfl).1⟩
  | false =>
   go_wp2
   go_ret
   exact ⟨by rw [dl'.out, hq]; rfl, (hV.at_ 6 rfl).1⟩
 ·have dl : (l1 == l2) = false := by simp [hl]
  have dl' : Hid (decide (l1 = l2) = false) := Lib.hid (by simp [hl])
  clear hl
  go_wp2
  go_ret
  exact ⟨by rw [dl'.out]; rfl, (hW.at_ 6 rfl).1⟩

end Go.Proofs.Ytfakjamocpamiaa
namespace Go.Adm
open Go Go.RowKit
theorem results_row_row_tmp {P : Program} {fn : Func} {p p2 q : Tmp} {ty ty2 : TypeId} (h : fn.results = #[.cell p ty, .cell p2 ty2, .tmp q]) (tmps : Array Value) (w : World)
  (g : Nat) (t : TypeId) (cs : Array Value) (fr : Nat × Nat) (d : TypeDesc) (hp : tmps.getD p undef = .pointer (some ⟨g, 0, none⟩)) (hg : w.heap[g]? = some (.cells cs t fr))
  (hu : P.underlying ty = some d) (hd : (match d with | .struct _ | .array _ _ => true | _ => false) = true) (hi : (P.info? ty).map (·.size) = some cs.size)
  (g2 : Nat) (t2 : TypeId) (cs2 : Array Value) (fr2 : Nat × Nat) (d2 : TypeDesc) (hp2 : tmps.getD p2 undef = .pointer (some ⟨g2, 0, none⟩)) (hg2 : w.heap[g2]? = some (.cells cs2 t2 fr2))
  (hu2 : P.underlying ty2 = some d2) (hd2 : (match d2 with | .struct _ | .array _ _ => true | _ => false) = true) (hi2 : (P.info? ty2).map (·.size) = some cs2.size) :
  (results fn tmps).run P w = .ok (.tuple #[.agg cs, .agg cs2, tmps.getD q undef]) w := by
 have hp' : tmps[p]?.getD undef = .pointer (some ⟨g, 0, none⟩) := by simpa using hp
 have hp2' : tmps[p2]?.getD undef = .pointer (some ⟨g2, 0, none⟩) := by simpa using hp2
 simp [results, h, hp', hp2', asAddr, run_loadVar_row w g t ty cs fr d hg hu hd hi, run_loadVar_row w g2 t2 ty2 cs2 fr2 d2 hg2 hu2 hd2 hi2]
/-- a signer's cells: seed, height, next -/
def siCells (seed : List UInt8) (h n : Int) : List Value := seed.map bv ++ [.int .i64 h, .int .i64 n]
theorem si_len (seed : List UInt8) (h n : Int) (hs : seed.length = 16) : (siCells seed h n).length = 18 := by simp [siCells, hs]
def siz : List Value := List.replicate 16 (Value.int .u8 0) ++ [.int .i64 0, .int .i64 0]
def sgz : List Value := [.int .i64 0, .slice none 0 0, .slice none 0 0]
end Go.Adm
namespace Go.Proofs.Ytfakjamocpamiaa
open Go Go.RowKit Go.Adm
theorem zero_si (W : World) : (zeroValue 43).run Try.prog W = .ok (.agg siz.toArray) W := by kernel_rfl
theorem zero_sg (W : World) : (zeroValue 60).run Try.prog W = .ok (.agg sgz.toArray) W := by kernel_rfl
end Go.Proofs.Ytfakjamocpamiaa
namespace Go.Proofs.Ytfakjamocpamiaa
open Go Go.RowKit Go.Adm

set_option maxRecDepth 100000 in
set_option maxHeartbeats 3200000 in
theorem Sign_bad (w : World) (seed d : List UInt8) (h n : Int) (hs : seed.length = 16) (hd : d.length = 32) (hb : hOk h = false ∨ n < 0) :
  Calls Try.prog 39 #[.agg (siCells seed h n).toArray, .agg (d.map bv).toArray] w fun e w' => e = .returned (.tuple #[.agg siz.toArray, .agg sgz.toArray, .int .i64 1]) ∧ Below w.heap.size w w' := by
 have hR : All w [.kept w w.heap.size] := ⟨⟨Below.refl _ _, Nat.le_refl _⟩, trivial⟩
 have hsl := Lib.hid hs
 have hbb := Lib.hid hb
 clear hs hd hb
 go_enter Try.func39, Try.ntmps39
 go_upto_region 1 with (fail)
 refine wp_gen ((((hR.new (l := siCells seed h n) _ 43 rfl rfl).new (l := d.map bv) _ 37 (g := w.heap.size + 1) (by simp) rfl).new (l := siz) _ 43 (g := w.heap.size + 1 + 1) (by simp) rfl).new (l := sgz) _ 60 (g := w.heap.size + 1 + 1 + 1) (by simp) rfl) ?_
 intro W hW
 have c1 : W.cell? ⟨w.heap.size, 16, none⟩ = some (.int .i64 h) := (Cells.cell (hW.at_ 3 rfl) (i := 16) (by simp [siCells, hsl.out])).trans (by simp [siCells, List.getElem_append, hsl.out])
 have c2 : W.cell? ⟨w.heap.size, 17, none⟩ = some (.int .i64 n) := (Cells.cell (hW.at_ 3 rfl) (i := 17) (by simp [siCells, hsl.out])).trans (by simp [siCells, List.getElem_append, hsl.out])
 go_wp2_with fail
 refine (height_any W h).mono ?_
 rintro e w' ⟨rfl, rfl⟩
 cases hx : hOk h with
 | false =>
  go_wp2_with (first | (refine wl_build rfl 43 [] rfl _ _ #[(0, 16), (16, 1), (17, 1)] siz.toArray zero_si Try.underlying43 (fun w => by kernel_rfl) rfl ?_) | (refine wl_build rfl 60 [] rfl _ _ #[(0, 1), (1, 1), (2, 1)] sgz.toArray zero_sg Try.underlying60 (fun w => by kernel_rfl) rfl ?_) | (refine wl_store_at hW 1 rfl 43 (.tmp 4) _ rfl (w.heap.size + 1 + 1) _ _ siz rfl rfl rfl rfl (by kernel_rfl) (by decide) (by simp [Apart, Res.apart, Low.parts, Low.els, Low.rd] <;> omega) ?_; intro w8 hI8 hs8) | (refine wl_store_at hI8 0 rfl 60 (.tmp 5) _ rfl (w.heap.size + 1 + 1 + 1) _ _ sgz rfl rfl rfl rfl (by kernel_rfl) (by decide) (by simp [Apart, Res.apart, Low.parts, Low.els, Low.rd] <;> omega) ?_; intro w9 hI9 hs9))
  refine bodyPost_ret (v := .tuple #[.agg siz.toArray, .agg sgz.toArray, .int .i64 1]) ?_ rfl ⟨rfl, (hI9.at_ 4 rfl).1⟩
  exact results_row_row_tmp (p := 4) (p2 := 5) (q := 6) rfl _ _ (w.heap.size + 1 + 1) 43 siz.toArray (0, 0) _ rfl (hI9.at_ 1 rfl) Try.underlying43 rfl (by kernel_rfl) (w.heap.size + 1 + 1 + 1) 60 sgz.toArray (0, 0) _ rfl (hI9.at_ 0 rfl) Try.underlying60 rfl (by kernel_rfl)

 | true =>
  have hn : decide (n < 0) = true := by
   rcases hbb.out with e | e
   ·rw [hx] at e; cases e
   ·simp [e]
  go_wp2_with (first | (refine wl_build rfl 43 [] rfl _ _ #[(0, 16), (16, 1), (17, 1)] siz.toArray zero_si Try.underlying43 (fun w => by kernel_rfl) rfl ?_) | (refine wl_build rfl 60 [] rfl _ _ #[(0, 1), (1, 1), (2, 1)] sgz.toArray zero_sg Try.underlying60 (fun w => by kernel_rfl) rfl ?_) | (refine wl_store_at hW 1 rfl 43 (.tmp 4) _ rfl (w.heap.size + 1 + 1) _ _ siz rfl rfl rfl rfl (by kernel_rfl) (by decide) (by simp [Apart, Res.apart, Low.parts, Low.els, Low.rd] <;> omega) ?_; intro w8 hI8 hs8) | (refine wl_store_at hI8 0 rfl 60 (.tmp 5) _ rfl (w.heap.size + 1 + 1 + 1) _ _ sgz rfl rfl rfl rfl (by kernel_rfl) (by decide) (by simp [Apart, Res.apart, Low.parts, Low.els, Low.rd] <;> omega) ?_; intro w9 hI9 hs9))
  refine bodyPost_ret (v := .tuple #[.agg siz.toArray, .agg sgz.toArray, .int .i64 1]) ?_ rfl ⟨rfl, (hI9.at_ 4 rfl).1⟩
  exact results_row_row_tmp (p := 4) (p2 := 5) (q := 6) rfl _ _ (w.heap.size + 1 + 1) 43 siz.toArray (0, 0) _ rfl (hI9.at_ 1 rfl) Try.underlying43 rfl (by kernel_rfl) (w.heap.size + 1 + 1 + 1) 60 sgz.toArray (0, 0) _ rfl (hI9.at_ 0 rfl) Try.underlying60 rfl (by kernel_rfl)


end Go.Proofs.Ytfakjamocpamiaa
namespace Go.Proofs.Ytfakjamocpamiaa
open Go Go.RowKit Go.Adm

set_option maxRecDepth 100000 in
set_option maxHeartbeats 3200000 in
theorem Sign_full (w : World) (seed d : List UInt8) (kh kn : Nat) (hs : seed.length = 16) (hd : d.length = 32) (hk : kh ≤ 6) (hb : 2 ^ kh ≤ kn) :
  Calls Try.prog 39 #[.agg (siCells seed kh kn).toArray, .agg (d.map bv).toArray] w fun e w' => e = .returned (.tuple #[.agg siz.toArray, .agg sgz.toArray, .int .i64 13]) ∧ Below w.heap.size w w' := by
 have hR : All w [.kept w w.heap.size] := ⟨⟨Below.refl _ _, Nat.le_refl _⟩, trivial⟩
 have hsl := Lib.hid hs
 have h64 := (pow_le64 kh hk)
 have hx : hOk (kh : Int) = true := by unfold hOk; simp; omega
 have hn : decide ((kn : Int) < 0) = false := by simp
 have p1 : IntKind.i64.wrap (2 ^ kh) = ((2 ^ kh : Nat) : Int) := by rw [IntWalk.i64_in _ (by have := h64.2; have : ((2 ^ kh : Nat) : Int) = 2 ^ kh := (by simp); omega)]; simp
 have p2 : wrap64 (2 ^ kh) = ((2 ^ kh : Nat) : Int) := by have := pow_cast kh hk; simpa using this
 have hg : decide (((2 ^ kh : Nat) : Int) ≤ (kn : Int)) = true := by simp only [decide_eq_true_eq]; omega
 have hg2 : decide ((2 : Int) ^ kh ≤ (kn : Int)) = true := by
  simp only [decide_eq_true_eq]; exact_mod_cast hb
 clear hs hd hb
 go_enter Try.func39, Try.ntmps39
 go_upto_region 1 with (fail)
 refine wp_gen ((((hR.new (l := siCells seed kh kn) _ 43 rfl rfl).new (l := d.map bv) _ 37 (g := w.heap.size + 1) (by simp) rfl).new (l := siz) _ 43 (g := w.heap.size + 1 + 1) (by simp) rfl).new (l := sgz) _ 60 (g := w.heap.size + 1 + 1 + 1) (by simp) rfl) ?_
 intro W hW
 have c1 : W.cell? ⟨w.heap.size, 16, none⟩ = some (.int .i64 kh) := (Cells.cell (hW.at_ 3 rfl) (i := 16) (by simp [siCells, hsl.out])).trans (by simp [siCells, List.getElem_append, hsl.out])
 have c2 : W.cell? ⟨w.heap.size, 17, none⟩ = some (.int .i64 kn) := (Cells.cell (hW.at_ 3 rfl) (i := 17) (by simp [siCells, hsl.out])).trans (by simp [siCells, List.getElem_append, hsl.out])
 go_wp2_with fail
 refine (height_any W kh).mono ?_
 rintro e w' ⟨rfl, rfl⟩
 rw [hx]
 go_wp2_with fail
 go_quiet (fail)
 have hW' := fun n => hW.drewN n
 go_wp2_with (first | (refine wl_build rfl 43 [] rfl _ _ #[(0, 16), (16, 1), (17, 1)] siz.toArray zero_si Try.underlying43 (fun w => by kernel_rfl) rfl ?_) | (refine wl_build rfl 60 [] rfl _ _ #[(0, 1), (1, 1), (2, 1)] sgz.toArray zero_sg Try.underlying60 (fun w => by kernel_rfl) rfl ?_) | (refine wl_store_at (hW' _) 1 rfl 43 (.tmp 4) _ rfl (w.heap.size + 1 + 1) _ _ siz rfl rfl rfl rfl (by kernel_rfl) (by decide) (by simp [Apart, Res.apart, Low.parts, Low.els, Low.rd] <;> omega) ?_; intro w8 hI8 hs8) | (refine wl_store_at hI8 0 rfl 60 (.tmp 5) _ rfl (w.heap.size + 1 + 1 + 1) _ _ sgz rfl rfl rfl rfl (by kernel_rfl) (by decide) (by simp [Apart, Res.apart, Low.parts, Low.els, Low.rd] <;> omega) ?_; intro w9 hI9 hs9))
 refine bodyPost_ret (v := .tuple #[.agg siz.toArray, .agg sgz.toArray, .int .i64 13]) ?_ rfl ⟨rfl, (hI9.at_ 4 rfl).1⟩
 exact results_row_row_tmp (p := 4) (p2 := 5) (q := 6) rfl _ _ (w.heap.size + 1 + 1) 43 siz.toArray (0, 0) _ rfl (hI9.at_ 1 rfl) Try.underlying43 rfl (by kernel_rfl) (w.heap.size + 1 + 1 + 1) 60 sgz.toArray (0, 0) _ rfl (hI9.at_ 0 rfl) Try.underlying60 rfl (by kernel_rfl)


end Go.Proofs.Ytfakjamocpamiaa
set_option linter.unusedSimpArgs false
set_option linter.unusedVariables false
namespace Go.Adm
open Go Go.RowKit
def sibF (seed : List UInt8) (kh kn k : Nat) : List UInt8 := (lvl 0 (leavesS seed kh) k).getD (kn / 2 ^ k ^^^ 1) []
def pathS (seed : List UInt8) (kh kn : Nat) : List (List UInt8) := (List.range kh).map (sibF seed kh kn)
theorem pathS_len (seed : List UInt8) (kh kn : Nat) : (pathS seed kh kn).length = kh := by simp [pathS]
theorem pathS_succ (seed : List UInt8) (kh kn k : Nat) (hk : k < kh) : (pathS seed kh kn).take (k + 1) = (pathS seed kh kn).take k ++ [sibF seed kh kn k] := by
 rw [List.take_succ_eq_append_getElem (by rw [pathS_len]; exact hk)]
 simp [pathS]
theorem climbN_add (x : List UInt8) (l c f : Int) (m : Nat) : ∀ n, climbN (climbN x l c f m) l c (f + m) n = climbN x l c f (m + n)
 | 0 => rfl
 | n + 1 => by
  rw [climbN, climbN_add x l c f m n, ← Nat.add_assoc, climbN]
  congr 1
  omega
theorem climbS_up (x : List UInt8) (l c : Int) (t : Nat) (ht : t ≤ 3) : climbS (climbS x l c 0 (t : Int)) l c (t : Int) 3 = climbS x l c 0 3 := by
 have h1 : climbS x l c 0 (t : Int) = climbN x l c 0 t := by
  unfold climbS
  rw [if_neg (by omega)]
  congr 1
 rw [h1]
 unfold climbS
 rw [if_neg (by omega), if_neg (by omega)]
 have h2 := climbN_add x l c 0 t (3 - t)
 rw [show (0 : Int) + (t : Int) = (t : Int) from by omega] at h2
 rw [show ((3 : Int) - (t : Int)).toNat = 3 - t from by omega, h2]
 congr 1
 omega
theorem rec_sign (seed : List UInt8) (leaf : Int) (d : List UInt8) : recS leaf d (signS seed leaf d) = publicS seed leaf := by
 unfold recS publicS list68
 congr 1
 refine List.map_congr_left fun i hi => ?_
 have hi' : i < 68 := by simpa using hi
 unfold recF
 have h1 : (signS seed leaf d).getD i [] = signF seed leaf d i := by simp [signS, list68, List.getD, hi']
 rw [h1]
 unfold signF
 exact climbS_up _ _ _ _ (by have := (dgt d i).isLt; omega)
theorem xor_one (i : Nat) : i ^^^ 1 = if i % 2 = 0 then i + 1 else i - 1 := by
 have h1 : (i ^^^ 1) / 2 = i / 2 := by rw [Nat.xor_div_two]; simp
 have h2 := @Nat.xor_mod_two_eq_one i 1
 split <;> omega
theorem pathF_up (k i : Nat) (L : List (List UInt8)) (hi : i / 2 < L.length / 2) : pathF k i (L.getD i []) (L.getD (i ^^^ 1) []) = (upS k L).getD (i / 2) [] := by
 have h1 : (upS (k : Int) L).getD (i / 2) [] = upF k L (i / 2) := by simp [upS, List.getD, hi]
 rw [h1, xor_one]
 unfold pathF upF
 split
 ·rw [show 2 * (i / 2) = i from by omega]
 ·rw [show 2 * (i / 2) = i - 1 from by omega, show i - 1 + 1 = i from by omega]
theorem path_lvl (seed : List UInt8) (kh kn : Nat) (hn : kn < 2 ^ kh) : ∀ k, k ≤ kh → pathN (publicS seed kn) kn (pathS seed kh kn) k = (lvl 0 (leavesS seed kh) k).getD (kn / 2 ^ k) []
 | 0, _ => by simp [pathN, lvl, leavesS, List.getD, hn]
 | k + 1, hk => by
  rw [pathN, path_lvl seed kh kn hn k (by omega)]
  have h1 : (pathS seed kh kn).getD k [] = sibF seed kh kn k := by simp [pathS, List.getD, show k < kh from by omega]
  have hl : (lvl 0 (leavesS seed kh) k).length = 2 ^ (kh - k) := lvl_len 0 (leavesS seed kh) kh (by simp [leavesS]) k (by omega)
  have h2 : 2 ^ (kh - k) = 2 ^ (kh - (k + 1)) * 2 := by rw [← Nat.pow_succ]; congr 1; omega
  have h3 : kn / 2 ^ (k + 1) < 2 ^ (kh - (k + 1)) := by
   apply Nat.div_lt_of_lt_mul
   rw [← Nat.pow_add, show k + 1 + (kh - (k + 1)) = kh from by omega]
   exact hn
  have h4 : kn / 2 ^ k / 2 = kn / 2 ^ (k + 1) := by rw [Nat.div_div_eq_div_mul, Nat.pow_succ]
  rw [h1, sibF, pathF_up _ _ _ (by rw [h4, hl, h2]; omega), h4]
  show (upS (k : Int) _).getD _ _ = (upS (0 + (k : Int)) _).getD _ _
  rw [Int.zero_add]
theorem signed_verifies (seed d : List UInt8) (kh kn : Nat) (hh : kh ≤ 6) (hn : kn < 2 ^ kh) : verifyB kh kn (rootS seed kh) d (signS seed kn d) (pathS seed kh kn) = true := by
 unfold verifyB
 rw [Bool.and_eq_true]
 constructor
 ·rw [shapedB_iff]
  refine ⟨⟨by omega, by omega⟩, by omega, ?_, by simp [signS, list68_len], by rw [pathS_len]⟩
  rw [Int.toNat_natCast]
  exact_mod_cast hn
 ·rw [rec_sign, Int.toNat_natCast, pathS_len, path_lvl seed kh kn hn kh (Nat.le_refl _), Nat.div_eq_of_lt hn]
  simp [rootS]
/-- all levels of a tree, as a fact about what lies below B -/
def LvlB (B : Nat) (w : World) (v : Value) (l : List (List UInt8)) : Prop := ∃ A c, v = .slice A l.length c ∧ Els w B 16 A l.length (hvs l)
theorem LvlB.keep {B : Nat} {w w' : World} {v : Value} {l : List (List UInt8)} (h : LvlB B w v l) (hk : ∀ p : Addr, p.block < B → w'.cell? p = w.cell? p) : LvlB B w' v l := by
 obtain ⟨A, c, e, h1⟩ := h
 exact ⟨A, c, e, h1.keep hk⟩
def Low.tree (B : Nat) (A : Option Addr) (n : Nat) (vs : List Value) (ls : List (List (List UInt8))) : Low :=
 ⟨B, fun w => Rd w B 1 A n vs ∧ All2 (LvlB B w) vs ls, fun _ _ hk h => ⟨h.1.keep hk, h.2.imp_mem fun _ _ _ h2 => h2.keep hk⟩⟩
theorem All2.idx {α β : Type} {R : α → β → Prop} {xs : List α} {ys : List β} (h : All2 R xs ys) : ∀ {k : Nat} {y : β}, ys[k]? = some y → ∃ x, xs[k]? = some x ∧ R x y := by
 induction h with
 | nil => intro k y hy; simp at hy
 | cons hr _ ih =>
  intro k y hy
  cases k with
  | zero =>
   simp only [List.getElem?_cons_zero, Option.some.injEq] at hy
   subst hy
   exact ⟨_, rfl, hr⟩
  | succ k =>
   simp only [List.getElem?_cons_succ] at hy ⊢
   exact ih hy
theorem lvls_at (level : Int) (l : List (List UInt8)) (j k : Nat) (hk : k ≤ j) : (lvls level l j)[k]? = some (lvl level l k) := by simp [lvls, show k < j + 1 from by omega]
/-- all levels of a tree, within a band of blocks -/
def TreeIn (lo hi : Nat) (A : Option Addr) (n : Nat) (vs : List Value) (ls : List (List (List UInt8))) (w : World) : Prop :=
 (∀ ad, A = some ad → lo ≤ ad.block) ∧ (∀ v ∈ vs, ∀ A n c, v = .slice A n c → ∀ ad, A = some ad → lo ≤ ad.block) ∧ Rd w hi 1 A n vs ∧ All2 (LvlB hi w) vs ls
theorem block_of_cell {w : World} {p : Addr} {v : Value} (h : w.cell? p = some v) : p.block < w.heap.size := by
 rcases Nat.lt_or_ge p.block w.heap.size with h1 | h1
 ·exact h1
 ·unfold World.cell? at h
  rw [Array.getElem?_eq_none h1] at h
  cases h
theorem TreeIn.nest {w : World} {lo hi : Nat} {A : Option Addr} {n : Nat} {vs : List Value} {ls : List (List (List UInt8))} (e : TypeId) (size : Nat) (h : TreeIn lo hi A n vs ls w) (hh : hi ≤ w.heap.size) :
  Nest w lo e size none 0 0 [] 0 (fun b => lo ≤ b ∧ b < hi) (TreeIn lo hi A n vs ls) := by
 refine Nest.of (Go.Adm.Own.nil _ _ _ _) h (fun w w' hs hb ht => ?_) fun b hb => ⟨hb.1, Nat.lt_of_lt_of_le hb.2 hh, fun e => by cases e⟩
 obtain ⟨h1, h2, h3, h4⟩ := ht
 have hk : ∀ b, lo ≤ b ∧ b < hi → b < w.heap.size → w'.heap[b]? = w.heap[b]? := fun b hq hlt => hb b (.inr hq) hlt
 have rd : ∀ {size n : Nat} {A : Option Addr} {xs : List Value}, Rd w hi size A n xs → (∀ ad, A = some ad → lo ≤ ad.block) → Rd w' hi size A n xs := fun {size n A xs} hr ha => by
  refine ⟨hr.len, fun hn => ?_⟩
  obtain ⟨ad, e, hlt, hc⟩ := hr.at_ hn
  refine ⟨ad, e, hlt, fun j u hu => ?_⟩
  have hcu := hc j u hu
  have hl := block_of_cell hcu
  rw [add_block] at hl
  rw [World.cell?_of_block (w := w) (hk _ (by rw [add_block]; exact ⟨ha ad e, hlt⟩) (by rw [add_block]; exact hl))]
  exact hcu
 refine ⟨h1, h2, rd h3 h1, h4.imp_mem fun v hv l hl => ?_⟩
 obtain ⟨A', c', rfl, hE⟩ := hl
 exact ⟨A', c', rfl, ⟨rd hE.rd (h2 _ hv _ _ _ rfl), hE.each, hE.len⟩⟩
theorem lvl_sib (seed : List UInt8) (kh kn k : Nat) (hk : k < kh) (hn : kn < 2 ^ kh) : kn / 2 ^ k ^^^ 1 < (lvl 0 (leavesS seed kh) k).length := by
 have hl : (lvl 0 (leavesS seed kh) k).length = 2 ^ (kh - k) := lvl_len 0 (leavesS seed kh) kh (by simp [leavesS]) k (by omega)
 have h2 : 2 ^ (kh - k) = 2 ^ (kh - (k + 1)) * 2 := by rw [← Nat.pow_succ]; congr 1; omega
 have h3 : kn / 2 ^ k < 2 ^ (kh - k) := by
  apply Nat.div_lt_of_lt_mul
  rw [← Nat.pow_add, show k + (kh - k) = kh from by omega]
  exact hn
 rw [hl, xor_one]
 rw [h2] at h3 ⊢
 generalize kn / 2 ^ k = i at *
 generalize 2 ^ (kh - (k + 1)) = m at *
 split <;> omega
theorem sibF_at (seed : List UInt8) (kh kn k : Nat) (hk : k < kh) (hn : kn < 2 ^ kh) : sibF seed kh kn k = (lvl 0 (leavesS seed kh) k)[kn / 2 ^ k ^^^ 1]'(lvl_sib seed kh kn k hk hn) := by
 have h := lvl_sib seed kh kn k hk hn
 simp [sibF, List.getD, h]
theorem sibF_len (seed : List UInt8) (kh kn k : Nat) (hk : k < kh) (hn : kn < 2 ^ kh) : (sibF seed kh kn k).length = 16 := by
 rw [sibF_at seed kh kn k hk hn]
 exact lvl_each 0 _ (leavesS_each seed kh) k _ (List.getElem_mem _)
theorem TreeIn.sib {lo hi kh kn k : Nat} {A : Option Addr} {vs : List Value} {seed : List UInt8} {W : World} (h : TreeIn lo hi A (kh + 1) vs (lvls 0 (leavesS seed kh) kh) W) (hk : k < kh) (hn : kn < 2 ^ kh) :
  ∃ ad cl adl, A = some ad ∧ ∀ W', TreeIn lo hi A (kh + 1) vs (lvls 0 (leavesS seed kh) kh) W' → W'.cell? (ad.add k) = some (.slice (some adl) (lvl 0 (leavesS seed kh) k).length cl) ∧
   ∀ j u, ((sibF seed kh kn k).map bv)[j]? = some u → W'.cell? ((adl.add ((kn / 2 ^ k ^^^ 1) * 16)).add j) = some u := by
 have hm := lvl_sib seed kh kn k hk hn
 have key : ∀ W', TreeIn lo hi A (kh + 1) vs (lvls 0 (leavesS seed kh) kh) W' → ∃ ad Al cl adl, A = some ad ∧ vs[k]? = some (.slice Al (lvl 0 (leavesS seed kh) k).length cl) ∧ Al = some adl ∧ W'.cell? (ad.add k) = some (.slice Al (lvl 0 (leavesS seed kh) k).length cl) ∧
   ∀ j u, ((sibF seed kh kn k).map bv)[j]? = some u → W'.cell? ((adl.add ((kn / 2 ^ k ^^^ 1) * 16)).add j) = some u := fun W' ⟨_, _, h3, h4⟩ => by
  obtain ⟨x, hx, Al, cl, rfl, hE⟩ := h4.idx (lvls_at 0 (leavesS seed kh) kh k (by omega))
  obtain ⟨ad, u, e, _, hu, hc⟩ := h3.cell (k := k) (by omega)
  rw [hx] at hu
  obtain rfl := Option.some.inj hu
  obtain ⟨adl, e2, _, hcs⟩ := Els.half hE hm
  exact ⟨ad, Al, cl, adl, e, hx, e2, hc, by rw [sibF_at seed kh kn k hk hn]; exact hcs⟩
 obtain ⟨ad, Al, cl, adl, e1, e2, e3, _, _⟩ := key W h
 refine ⟨ad, cl, adl, e1, fun W' h' => ?_⟩
 obtain ⟨ad', Al', cl', adl', f1, f2, f3, f4, f5⟩ := key W' h'
 rw [e1] at f1
 obtain rfl := Option.some.inj f1
 rw [e2] at f2
 injection f2 with f2
 injection f2 with g1 g2 g3
 subst g1 g3
 rw [e3] at f3 f4
 obtain rfl := Option.some.inj f3
 exact ⟨f4, f5⟩
section
variable {P : Program} {w : World} {rs : List Res}
/-- a whole array is stored, in a region that draws -/
theorem wp_store_at {op : Oper} {a : Act} {K : Act → World → Prop} {Q : Exit → Act → World → Prop} (hR : All w rs) (i : Nat) (ty : TypeId) (x y : Operand) (ho : op.op = .store ty x y)
  (g : Nat) (t : TypeId) (cs : List Value) (vs : List Value) (hC : rs[i]? = some (.cells g t cs)) (hx : a.eval x = .pointer (some ⟨g, 0, none⟩)) (hy : a.eval y = .agg vs.toArray)
  (hl : vs.length = cs.length) (hi : (P.info? ty).map (·.size) = some vs.length) (h1 : ∀ v ∈ vs, v.oneCell' = true) (hap : Apart (some g) (rs.eraseIdx i))
  (h : ∀ w', All w' (rs.set i (.cells g t vs)) → w'.heap.size = w.heap.size → K (a.put op.dst undef) w') : op.wp P a w K Q :=
 have hc : Cells w g t cs := hR.at_ i hC
 wp_store_mid ty x y ho g 0 vs.toArray hx hy (by rw [List.size_toArray, hl]; exact hc.there) (by rw [List.size_toArray]; exact hi) (all_oneCell_toArray h1)
  (h _ (All.upd only_setCells i _ hR (hc.storeAll hl) hap) (size_setCells _ _ _ _))
end
/-- a signature without its path, over a chain of the call's own -/
def VF.sig (base : Nat) (e : TypeId) (kn : Int) (xs : List Value) : VF := .gen (fun w v => base ≤ w.heap.size ∧ ∃ A c, v = .agg (sgCells kn A 68 c none 0 0).toArray ∧ Go.Adm.Own w base e 16 A 68 c xs) fun _ _ _ hg ⟨hb, A, c, hv, h⟩ =>
 ⟨Nat.le_trans hb hg.size, A, c, hv, Res.step (r := .own base e 16 A 68 c xs) hg h (Res.apart_none _)⟩
/-- a block of the call's own, known whole -/
def VF.box (base : Nat) (t : TypeId) (cs : List Value) : VF := .gen (fun w v => ∃ g, v = .pointer (some ⟨g, 0, none⟩) ∧ base ≤ g ∧ Cells w g t cs) fun _ _ _ hg ⟨g, hv, hb, h⟩ =>
 ⟨g, hv, hb, Res.step (r := .cells g t cs) hg h (Res.apart_none _)⟩
theorem Own.ne_cells {w : World} {base size n c g : Nat} {e t : TypeId} {A : Option Addr} {xs cs : List Value} (h : Go.Adm.Own w base e size A n c xs) (hc : Cells w g t cs) (ht : t ≠ e) : (Value.slice A n c).ownBlock ≠ some g := by
 rcases h.2 with ⟨hv, _⟩ | ⟨g', cap, cur, hv, _, hh, _⟩
 ·rw [hv]; intro e; cases e
 ·rw [hv]
  intro e'
  have e2 : g' = g := by simpa [Value.ownBlock] using e'
  subst e2
  rw [hc] at hh
  injection hh with hh
  injection hh with _ h2
  exact ht h2
theorem si_one (seed : List UInt8) (h n : Int) : ∀ v ∈ siCells seed h n, v.oneCell' = true := by
 intro v hv
 rcases List.mem_append.1 hv with h1 | h1
 ·exact bv_one seed v h1
 ·simp only [List.mem_cons, List.mem_nil_iff, or_false] at h1
  rcases h1 with rfl | rfl <;> rfl
theorem sg_one (kn : Int) (A : Option Addr) (n c : Nat) (A' : Option Addr) (n' c' : Nat) : ∀ v ∈ sgCells kn A n c A' n' c', v.oneCell' = true := by
 intro v hv
 simp only [sgCells, List.mem_cons, List.mem_nil_iff, or_false] at hv
 rcases hv with rfl | rfl | rfl <;> rfl
theorem si_next (seed : List UInt8) (h n m : Int) (hs : seed.length = 16) : (siCells seed h n).set 17 (.int .i64 m) = siCells seed h m := by
 unfold siCells
 rw [List.set_append_right _ _ (by simp [hs])]
 simp [hs]
theorem si_at16 {w : World} {g : Nat} {t : TypeId} {seed : List UInt8} {h n : Int} (hs : seed.length = 16) (hc : Cells w g t (siCells seed h n)) : w.cell? ⟨g, 16, none⟩ = some (.int .i64 h) :=
 (Cells.cell hc (i := 16) (by simp [siCells, hs])).trans (by simp [siCells, List.getElem_append, hs])
theorem si_at17 {w : World} {g : Nat} {t : TypeId} {seed : List UInt8} {h n : Int} (hs : seed.length = 16) (hc : Cells w g t (siCells seed h n)) : w.cell? ⟨g, 17, none⟩ = some (.int .i64 n) :=
 (Cells.cell hc (i := 17) (by simp [siCells, hs])).trans (by simp [siCells, List.getElem_append, hs])
theorem si_seed {w : World} {g : Nat} {t : TypeId} {seed : List UInt8} {h n : Int} (hs : seed.length = 16) (hc : Cells w g t (siCells seed h n)) : ∀ j u, (seed.map bv)[j]? = some u → w.cell? ((⟨g, 0, none⟩ : Addr).add j) = some u := fun j u hu => by
 obtain ⟨ad, e, _, hc⟩ := (Cells.rd hc (o := 0) (n := 16) (by simp [siCells, hs])).at_ (by omega)
 injection e with e
 subst e
 refine hc j u ?_
 rw [show ((siCells seed h n).drop 0).take 16 = seed.map bv from by rw [List.drop_zero, siCells, List.take_append_of_le_length (by simp [hs]), List.take_of_length_le (by simp [hs])]]
 exact hu
/-- a signature that was made -/
def SignOk (seed d : List UInt8) (kh kn : Nat) (tid : TypeId) (w : World) (e : Ending) (w' : World) : Prop :=
 ∃ Ac cc Ap cp B, e = .returned (.tuple #[.agg (siCells seed kh ((kn : Int) + 1)).toArray, .agg (sgCells kn Ac 68 cc Ap kh cp).toArray, .int .i64 0]) ∧ w.heap.size ≤ B ∧ B ≤ w'.heap.size ∧
  Go.Adm.Own w' w.heap.size tid 16 Ac 68 cc (hvs (signS seed kn d)).flatten ∧ (∀ g, (Value.slice Ac 68 cc).ownBlock = some g → g < B) ∧ Go.Adm.Own w' B tid 16 Ap kh cp (hvs (pathS seed kh kn)).flatten ∧ Below w.heap.size w w'
end Go.Adm

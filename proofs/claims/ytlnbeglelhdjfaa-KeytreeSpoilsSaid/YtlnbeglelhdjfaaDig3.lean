/- The reference's Digits. -/
import Derived.Test.YtlnbeglelhdjfaaDig2
set_option linter.unusedSimpArgs false
set_option linter.unusedVariables false
namespace Go.Adm
open Go Go.RowKit
theorem i64_and3 (n : Int) : bits .and .i64 n 3 = n % 4 := by
  have h3 : (BitVec.ofInt 64 3).toNat = 2 ^ 2 - 1 := by decide
  have key : (BitVec.ofInt 64 n &&& BitVec.ofInt 64 3).toNat = (n % ((2 ^ 64 : Nat) : Int)).toNat % 2 ^ 2 := by
    rw [BitVec.toNat_and, BitVec.toNat_ofInt, h3, Nat.and_two_pow_sub_one_eq_mod]
  show IntKind.i64.wrap ((BitVec.ofInt 64 n &&& BitVec.ofInt 64 3).toNat : Nat) = n % 4
  rw [key, IntKind.wrap_i64]
  omega
theorem and3i (b : UInt8) (m : Nat) : bits .and .i64 ((b.toNat : Int) / m) 3 = (((Fin.ofNat 4 (b.toNat / m)).val : Nat) : Int) := by
  rw [i64_and3]
  have e : ((b.toNat : Int) / m) = ((b.toNat / m : Nat) : Int) := by simp
  have h : (Fin.ofNat 4 (b.toNat / m)).val = b.toNat / m % 4 := rfl
  rw [e, h]
  omega
/-- the digits of a byte, by name, and what the operations make of it -/
theorem dig4_names (b : UInt8) : ∃ x0 x1 x2 x3 : Fin 4, dig4 b = [x0, x1, x2, x3] ∧ bits .and .i64 ((b.toNat : Int) / 64) 3 = ((x0.val : Nat) : Int) ∧ bits .and .i64 ((b.toNat : Int) / 16) 3 = ((x1.val : Nat) : Int) ∧
    bits .and .i64 ((b.toNat : Int) / 4) 3 = ((x2.val : Nat) : Int) ∧ bits .and .i64 (b.toNat : Int) 3 = ((x3.val : Nat) : Int) :=
  ⟨Fin.ofNat 4 (b.toNat / 64), Fin.ofNat 4 (b.toNat / 16), Fin.ofNat 4 (b.toNat / 4), Fin.ofNat 4 b.toNat, rfl, and3i b 64, and3i b 16, and3i b 4, by have := and3i b 1; simpa using this⟩
end Go.Adm
namespace Go.Proofs.Ytlnbeglelhdjfaa
open Go Go.RowKit Go.Adm

set_option maxRecDepth 100000 in
set_option maxHeartbeats 3200000 in
theorem refDigits_any (w : World) (d : List UInt8) (hd : d.length = 32) :
    Calls Try.prog 43 #[.agg (d.map bv).toArray] w (DigPost d w) := by
  have hdl := Lib.hid hd
  clear hd
  have hR : All w [.own (w.heap.size + 1) 3 1 none 0 0 [], .kept w w.heap.size] := ⟨Go.Adm.Own.nil _ _ _ _, ⟨Below.refl _ _, Nat.le_refl _⟩, trivial⟩
  go_enter Try.func43, Try.ntmps43
  go_upto_region 1 with (fail)
  refine wp_gen (rs := [.own (w.heap.size + 1) 3 1 none 0 0 ([].map fv), .cells w.heap.size 27 (d.map bv), .kept w w.heap.size]) ⟨(hR.alloc _).1, Cells.new' w _ _ rfl rfl, (hR.alloc _).2.1, trivial⟩ ?_
  intro W hW
  go_wp2
  go_loopw [3, 4, 5] (fun v s i wr => ∃ (k L : Nat) (A' : Option Addr) (c' : Nat), k ≤ 16 ∧ i = .int .i64 k ∧ Hid (L = 4 * k) ∧ v = .slice A' L c' ∧ s = .int .i64 (digsum ((d.take k).flatMap dig4) : Nat) ∧ All wr [.own (w.heap.size + 1) 3 1 A' L c' (((d.take k).flatMap dig4).map fv), .cells w.heap.size 27 (d.map bv), .kept w w.heap.size] ∧ w.heap.size + 1 ≤ wr.heap.size) (fun _ _ i _ => 16 - (intOf i).toNat)
  case atStart => exact ⟨0, 0, none, 0, by omega, rfl, Lib.hid rfl, rfl, rfl, hW, Cells.lt (hW.at_ 1 rfl)⟩
  case round =>
    obtain ⟨k, L, A', c', hk, rfl, HL, rfl, rfl, hI, hsz⟩ := hrel
    by_cases hlt : k < 16
    · have hkb : decide ((k : Int) < 16) = true := by simp; omega
      have hkd : k < d.length := by rw [hdl.out]; omega
      have hM := Lib.hid (digits_succ d k hkd)
      have hlen := digits_len (d.take k)
      rw [List.length_take, hdl.out] at hlen
      have hs0 := digsum_le ((d.take k).flatMap dig4)
      have hs60 : digsum ((d.take k).flatMap dig4) ≤ 180 := by omega
      have hbb := d[k].toNat_lt
      have hcell : d[k] = d[k] := rfl
      have HB : Hid (∀ wv, Cells wv w.heap.size 27 (d.map bv) → wv.cell? ⟨w.heap.size, k, none⟩ = some (.int .u8 d[k].toNat)) := Lib.hid (fun wv h => by
        rw [Cells.cell h (i := k) (by rw [List.length_map, hdl.out]; omega)]; simp [bv])
      clear hcell hs0 hlen
      generalize d[k] = b at *
      obtain ⟨x0, x1, x2, x3, hdig, e0, e1, e2, e3⟩ := dig4_names b
      have l0 := x0.isLt
      have l1 := x1.isLt
      have l2 := x2.isLt
      have l3 := x3.isLt
      have HDG := Lib.hid hdig
      clear hdig
      generalize hl : (d.take k).flatMap dig4 = l at *
      have HLL := Lib.hid hl
      clear hl
      have hLb : L ≤ 60 := by have := HL.out; omega
      go_wp2
      obtain ⟨wo, hwo⟩ : ∃ x, x = wr := ⟨_, rfl⟩
      subst hwo
      go_loopw [3, 4, 6] (fun v s i wr => ∃ (j n : Nat) (A2 : Option Addr) (c2 : Nat), j ≤ 4 ∧ i = .int .i64 (3 - (j : Int)) ∧ Hid (n = L + j) ∧ n ≤ 64 ∧ v = .slice A2 n c2 ∧ s = .int .i64 (digsum (l ++ [x0, x1, x2, x3].take j) : Nat) ∧ All wr [.own (w.heap.size + 1) 3 1 A2 n c2 ((l ++ [x0, x1, x2, x3].take j).map fv), .cells w.heap.size 27 (d.map bv), .kept w w.heap.size] ∧ w.heap.size + 1 ≤ wr.heap.size) (fun _ _ i _ => (intOf i + 1).toNat)
      case atStart => exact ⟨0, L, A', c', by omega, rfl, Lib.hid rfl, by omega, rfl, by rw [List.take_zero, List.append_nil], by rw [List.take_zero, List.append_nil]; exact hI, hsz⟩
      case round =>
        obtain ⟨j, n, A2, c2, hj, rfl, HN, hn, rfl, rfl, hI2, hsz2⟩ := hrel
        have cb := HB.out _ (hI2.at_ 1 rfl)
        have hsb : digsum (l ++ [x0, x1, x2, x3].take j) ≤ 192 := by
          have h1 : digsum (l ++ [x0, x1, x2, x3].take j) = digsum l + digsum ([x0, x1, x2, x3].take j) := by simp [digsum]
          have h2 := digsum_le ([x0, x1, x2, x3].take j)
          have h3 : ([x0, x1, x2, x3].take j).length ≤ 4 := by rw [List.length_take]; simp; omega
          omega
        have hjj : j = 0 ∨ j = 1 ∨ j = 2 ∨ j = 3 ∨ j = 4 := by omega
        rcases hjj with rfl | rfl | rfl | rfl | rfl
        · have hsn : Hid (digsum (l ++ [x0, x1, x2, x3].take 1) = digsum (l ++ [x0, x1, x2, x3].take 0) + (3 - x0.val)) := Lib.hid (by simp [digsum] <;> omega)
          have hmp : Hid ((l ++ [x0, x1, x2, x3].take 1).map fv = (l ++ [x0, x1, x2, x3].take 0).map fv ++ [.int .i64 ((x0.val : Nat) : Int)]) := Lib.hid (by simp [fv])
          generalize digsum (l ++ [x0, x1, x2, x3].take 0) = s1 at *
          go_wp2_with (at_builtin; refine wl_app_at el_int (hI2.alloc _) 0 rfl (.tmp 26) (.tmp 28) rfl (w.heap.size + 1) _ _ _ _ rfl rfl (wr.heap.size + 1) _ 1 1 [.int .i64 ((x0.val : Nat) : Int)] rfl (Rd.lit wr _ _ 1 rfl) (by intro u hu; simp only [List.mem_singleton] at hu; subst hu; rfl) (by omega) (by simp; omega) (by intro g hg _; simp [Apart, Res.apart] <;> omega) ?_; intro A5 c5 w5 hI5 hs5)
          refine ⟨⟨1, n + 1, A5, c5, by omega, rfl, Lib.hid (by have := HN.out; omega), by have := HN.out; omega, rfl, congrArg (Value.int .i64) (by rw [hsn.out]; omega), by rw [hmp.out]; exact hI5, by first | omega | (simp at hs5; omega)⟩, by simp [intOf]⟩
        · have hsn : Hid (digsum (l ++ [x0, x1, x2, x3].take 2) = digsum (l ++ [x0, x1, x2, x3].take 1) + (3 - x1.val)) := Lib.hid (by simp [digsum] <;> omega)
          have hmp : Hid ((l ++ [x0, x1, x2, x3].take 2).map fv = (l ++ [x0, x1, x2, x3].take 1).map fv ++ [.int .i64 ((x1.val : Nat) : Int)]) := Lib.hid (by simp [fv])
          generalize digsum (l ++ [x0, x1, x2, x3].take 1) = s1 at *
          go_wp2_with (at_builtin; refine wl_app_at el_int (hI2.alloc _) 0 rfl (.tmp 26) (.tmp 28) rfl (w.heap.size + 1) _ _ _ _ rfl rfl (wr.heap.size + 1) _ 1 1 [.int .i64 ((x1.val : Nat) : Int)] rfl (Rd.lit wr _ _ 1 rfl) (by intro u hu; simp only [List.mem_singleton] at hu; subst hu; rfl) (by omega) (by simp; omega) (by intro g hg _; simp [Apart, Res.apart] <;> omega) ?_; intro A5 c5 w5 hI5 hs5)
          refine ⟨⟨2, n + 1, A5, c5, by omega, rfl, Lib.hid (by have := HN.out; omega), by have := HN.out; omega, rfl, congrArg (Value.int .i64) (by rw [hsn.out]; omega), by rw [hmp.out]; exact hI5, by first | omega | (simp at hs5; omega)⟩, by simp [intOf]⟩
        · have hsn : Hid (digsum (l ++ [x0, x1, x2, x3].take 3) = digsum (l ++ [x0, x1, x2, x3].take 2) + (3 - x2.val)) := Lib.hid (by simp [digsum] <;> omega)
          have hmp : Hid ((l ++ [x0, x1, x2, x3].take 3).map fv = (l ++ [x0, x1, x2, x3].take 2).map fv ++ [.int .i64 ((x2.val : Nat) : Int)]) := Lib.hid (by simp [fv])
          generalize digsum (l ++ [x0, x1, x2, x3].take 2) = s1 at *
          go_wp2_with (at_builtin; refine wl_app_at el_int (hI2.alloc _) 0 rfl (.tmp 26) (.tmp 28) rfl (w.heap.size + 1) _ _ _ _ rfl rfl (wr.heap.size + 1) _ 1 1 [.int .i64 ((x2.val : Nat) : Int)] rfl (Rd.lit wr _ _ 1 rfl) (by intro u hu; simp only [List.mem_singleton] at hu; subst hu; rfl) (by omega) (by simp; omega) (by intro g hg _; simp [Apart, Res.apart] <;> omega) ?_; intro A5 c5 w5 hI5 hs5)
          refine ⟨⟨3, n + 1, A5, c5, by omega, rfl, Lib.hid (by have := HN.out; omega), by have := HN.out; omega, rfl, congrArg (Value.int .i64) (by rw [hsn.out]; omega), by rw [hmp.out]; exact hI5, by first | omega | (simp at hs5; omega)⟩, by simp [intOf]⟩
        · have hsn : Hid (digsum (l ++ [x0, x1, x2, x3].take 4) = digsum (l ++ [x0, x1, x2, x3].take 3) + (3 - x3.val)) := Lib.hid (by simp [digsum] <;> omega)
          have hmp : Hid ((l ++ [x0, x1, x2, x3].take 4).map fv = (l ++ [x0, x1, x2, x3].take 3).map fv ++ [.int .i64 ((x3.val : Nat) : Int)]) := Lib.hid (by simp [fv])
          generalize digsum (l ++ [x0, x1, x2, x3].take 3) = s1 at *
          go_wp2_with (at_builtin; refine wl_app_at el_int (hI2.alloc _) 0 rfl (.tmp 26) (.tmp 28) rfl (w.heap.size + 1) _ _ _ _ rfl rfl (wr.heap.size + 1) _ 1 1 [.int .i64 ((x3.val : Nat) : Int)] rfl (Rd.lit wr _ _ 1 rfl) (by intro u hu; simp only [List.mem_singleton] at hu; subst hu; rfl) (by omega) (by simp; omega) (by intro g hg _; simp [Apart, Res.apart] <;> omega) ?_; intro A5 c5 w5 hI5 hs5)
          refine ⟨⟨4, n + 1, A5, c5, by omega, rfl, Lib.hid (by have := HN.out; omega), by have := HN.out; omega, rfl, congrArg (Value.int .i64) (by rw [hsn.out]; omega), by rw [hmp.out]; exact hI5, by first | omega | (simp at hs5; omega)⟩, by simp [intOf]⟩
        · have h4 : Hid ((d.take (k + 1)).flatMap dig4 = l ++ [x0, x1, x2, x3].take 4) := Lib.hid (by rw [hM.out, HDG.out]; rfl)
          clear hI cb hsb
          go_wp2
          refine ⟨⟨k + 1, n, A2, c2, by omega, by go_num, Lib.hid (by have := HN.out; have := HL.out; omega), rfl, by rw [h4.out], by rw [h4.out]; exact hI2, hsz2⟩, by simp [intOf]; omega⟩
    · have hk16 : k = 16 := by omega
      have hL16 : (d.take k).flatMap dig4 = digits16 d := by rw [hk16]; rfl
      have hL64 : L = 64 := by have := HL.out; omega
      rw [hL16] at hI ⊢
      have hl64 : (digits16 d).length = 64 := by rw [← hL16, digits_len, List.length_take, hdl.out]; omega
      have hs1 := digsum_le (digits16 d)
      have hbs : digsum (digits16 d) = (UInt8.ofNat (digsum (digits16 d))).toNat := by rw [UInt8.toNat_ofNat']; omega
      rw [hbs]
      have hfin : Hid (digitsS d = digits16 d ++ dig4 (UInt8.ofNat (digsum (digits16 d)))) := Lib.hid rfl
      generalize UInt8.ofNat (digsum (digits16 d)) = b at *
      have hbb := b.toNat_lt
      obtain ⟨x0, x1, x2, x3, hdig, e0, e1, e2, e3⟩ := dig4_names b
      have l0 := x0.isLt
      have l1 := x1.isLt
      have l2 := x2.isLt
      have l3 := x3.isLt
      have HFIN : Hid (digitsS d = digits16 d ++ [x0, x1, x2, x3].take 4) := Lib.hid (by rw [hfin.out, hdig]; rfl)
      have HLL := Lib.hid hL64
      have hkb : decide ((k : Int) < 16) = false := by simp; omega
      clear hdig hfin hk16 hL16 hbs hs1 hl64 hL64
      generalize digits16 d = l at *
      go_wp2
      obtain ⟨wo, hwo⟩ : ∃ x, x = wr := ⟨_, rfl⟩
      subst hwo
      go_loopw [3, 8] (fun v i wr => ∃ (j n : Nat) (A2 : Option Addr) (c2 : Nat), j ≤ 4 ∧ i = .int .i64 (3 - (j : Int)) ∧ Hid (n = 64 + j) ∧ n ≤ 68 ∧ v = .slice A2 n c2 ∧ All wr [.own (w.heap.size + 1) 3 1 A2 n c2 ((l ++ [x0, x1, x2, x3].take j).map fv), .cells w.heap.size 27 (d.map bv), .kept w w.heap.size] ∧ w.heap.size + 1 ≤ wr.heap.size) (fun _ i _ => (intOf i + 1).toNat)
      case atStart => exact ⟨0, L, A', c', by omega, rfl, Lib.hid (by have := HLL.out; omega), by have := HLL.out; omega, rfl, by rw [List.take_zero, List.append_nil]; exact hI, hsz⟩
      case round =>
        obtain ⟨j, n, A2, c2, hj, rfl, HN, hn, rfl, hI2, hsz2⟩ := hrel
        have hjj : j = 0 ∨ j = 1 ∨ j = 2 ∨ j = 3 ∨ j = 4 := by omega
        rcases hjj with rfl | rfl | rfl | rfl | rfl
        · have hmp : Hid ((l ++ [x0, x1, x2, x3].take 1).map fv = (l ++ [x0, x1, x2, x3].take 0).map fv ++ [.int .i64 ((x0.val : Nat) : Int)]) := Lib.hid (by simp [fv])
          have hn2 : n ≤ 64 := by have := HN.out; omega
          go_wp2_with (at_builtin; refine wl_app_at el_int (hI2.alloc _) 0 rfl (.tmp 38) (.tmp 45) rfl (w.heap.size + 1) _ _ _ _ rfl rfl (wr.heap.size + 1) _ 1 1 [.int .i64 ((x0.val : Nat) : Int)] rfl (Rd.lit wr _ _ 1 rfl) (by intro u hu; simp only [List.mem_singleton] at hu; subst hu; rfl) (by omega) (by simp; omega) (by intro g hg _; simp [Apart, Res.apart] <;> omega) ?_; intro A5 c5 w5 hI5 hs5)
          refine ⟨⟨1, n + 1, A5, c5, by omega, rfl, Lib.hid (by have := HN.out; omega), by have := HN.out; omega, rfl, by rw [hmp.out]; exact hI5, by first | omega | (simp at hs5; omega)⟩, by simp [intOf]⟩
        · have hmp : Hid ((l ++ [x0, x1, x2, x3].take 2).map fv = (l ++ [x0, x1, x2, x3].take 1).map fv ++ [.int .i64 ((x1.val : Nat) : Int)]) := Lib.hid (by simp [fv])
          have hn2 : n ≤ 65 := by have := HN.out; omega
          go_wp2_with (at_builtin; refine wl_app_at el_int (hI2.alloc _) 0 rfl (.tmp 38) (.tmp 45) rfl (w.heap.size + 1) _ _ _ _ rfl rfl (wr.heap.size + 1) _ 1 1 [.int .i64 ((x1.val : Nat) : Int)] rfl (Rd.lit wr _ _ 1 rfl) (by intro u hu; simp only [List.mem_singleton] at hu; subst hu; rfl) (by omega) (by simp; omega) (by intro g hg _; simp [Apart, Res.apart] <;> omega) ?_; intro A5 c5 w5 hI5 hs5)
          refine ⟨⟨2, n + 1, A5, c5, by omega, rfl, Lib.hid (by have := HN.out; omega), by have := HN.out; omega, rfl, by rw [hmp.out]; exact hI5, by first | omega | (simp at hs5; omega)⟩, by simp [intOf]⟩
        · have hmp : Hid ((l ++ [x0, x1, x2, x3].take 3).map fv = (l ++ [x0, x1, x2, x3].take 2).map fv ++ [.int .i64 ((x2.val : Nat) : Int)]) := Lib.hid (by simp [fv])
          have hn2 : n ≤ 66 := by have := HN.out; omega
          go_wp2_with (at_builtin; refine wl_app_at el_int (hI2.alloc _) 0 rfl (.tmp 38) (.tmp 45) rfl (w.heap.size + 1) _ _ _ _ rfl rfl (wr.heap.size + 1) _ 1 1 [.int .i64 ((x2.val : Nat) : Int)] rfl (Rd.lit wr _ _ 1 rfl) (by intro u hu; simp only [List.mem_singleton] at hu; subst hu; rfl) (by omega) (by simp; omega) (by intro g hg _; simp [Apart, Res.apart] <;> omega) ?_; intro A5 c5 w5 hI5 hs5)
          refine ⟨⟨3, n + 1, A5, c5, by omega, rfl, Lib.hid (by have := HN.out; omega), by have := HN.out; omega, rfl, by rw [hmp.out]; exact hI5, by first | omega | (simp at hs5; omega)⟩, by simp [intOf]⟩
        · have hmp : Hid ((l ++ [x0, x1, x2, x3].take 4).map fv = (l ++ [x0, x1, x2, x3].take 3).map fv ++ [.int .i64 ((x3.val : Nat) : Int)]) := Lib.hid (by simp [fv])
          have hn2 : n ≤ 67 := by have := HN.out; omega
          go_wp2_with (at_builtin; refine wl_app_at el_int (hI2.alloc _) 0 rfl (.tmp 38) (.tmp 45) rfl (w.heap.size + 1) _ _ _ _ rfl rfl (wr.heap.size + 1) _ 1 1 [.int .i64 ((x3.val : Nat) : Int)] rfl (Rd.lit wr _ _ 1 rfl) (by intro u hu; simp only [List.mem_singleton] at hu; subst hu; rfl) (by omega) (by simp; omega) (by intro g hg _; simp [Apart, Res.apart] <;> omega) ?_; intro A5 c5 w5 hI5 hs5)
          refine ⟨⟨4, n + 1, A5, c5, by omega, rfl, Lib.hid (by have := HN.out; omega), by have := HN.out; omega, rfl, by rw [hmp.out]; exact hI5, by first | omega | (simp at hs5; omega)⟩, by simp [intOf]⟩
        · have h2 := (hI2.1 : Go.Adm.Own wr (w.heap.size + 1) 3 1 A2 n c2 _)
          have hn68 : n = 68 := by have := HN.out; omega
          rw [← HFIN.out, hn68] at h2
          have h3 := (hI2.at_ 2 rfl).1
          subst hn68
          clear hI hI2
          go_wp2
          go_ret
          exact ⟨A2, c2, rfl, h2.cap.1, h2.cap.2, h2.rd, h3⟩
end Go.Proofs.Ytlnbeglelhdjfaa

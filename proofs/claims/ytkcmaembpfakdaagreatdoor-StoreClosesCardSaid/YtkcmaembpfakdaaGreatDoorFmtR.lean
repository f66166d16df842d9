/- The words of a digest: the reference. -/
import Derived.Test.YtkcmaembpfakdaaGreatDoorNum1
import Derived.Test.YtkcmaembpfakdaaGreatDoorGen2
import Derived.Deep.QuietTactic
import Derived.IntWalk
import Derived.Deep.Cut
set_option linter.unusedSimpArgs false
set_option linter.unusedVariables false
set_option maxRecDepth 100000
namespace Go.Proofs.YtkcmaembpfakdaaGreatDoor
open Go Go.RowKit Go.Adm
theorem el_bR : ElemOf Tryz.prog 36 5 (.int .u8 0) 1 1 := ElemOf.mk' Tryz.underlying36 (by kernel_rfl) rfl (by decide) (by decide)
set_option maxHeartbeats 3200000 in
theorem refhex_any (w : World) (B : Nat) (A : Option Addr) (n c : Nat) (l : List UInt8) (hl : Rd w B 1 A n (l.map bv)) (hn2 : n ≤ 1000) (hB : B ≤ w.heap.size) :
    Calls Tryz.prog 46 #[.slice A n c] w fun e w' => e = .returned (.string ⟨(hexL l).toArray⟩) ∧ Below w.heap.size w w' := by
  have hn : l.length = n := by have := hl.len; simpa using this
  have HN := Lib.hid hn
  have HL := Lib.hid hl
  clear hl hn
  go_enter Tryz.func46, Tryz.ntmps46
  go_wp2
  go_loopw [4, 5] (fun v i wr => ∃ (k : Nat) (A' : Option Addr) (c' : Nat), k ≤ n ∧ i = .int .i64 k ∧ v = .slice A' (2 * k) c' ∧ Go.Adm.Own wr w.heap.size 5 1 A' (2 * k) c' ((hexL (l.take k)).map bv) ∧ Below w.heap.size w wr ∧ w.heap.size ≤ wr.heap.size) (fun _ i _ => n - (intOf i).toNat)
  case atStart => exact ⟨0, none, 0, by omega, rfl, rfl, Go.Adm.Own.nil _ _ _ _, Below.refl _ _, Nat.le_refl _⟩
  case round =>
    obtain ⟨k, A', c', hk, rfl, rfl, hown, hkp, hsr⟩ := hrel
    by_cases hlt : k < n
    · have hkl : k < l.length := by rw [HN.out]; exact hlt
      have d1 : decide ((k : Int) < (n : Int)) = true := by simp; omega
      have hrd : Rd wr B 1 A n (l.map bv) := HL.out.keep fun p hp => hkp.cell (by omega)
      obtain ⟨ad, u, rfl, _, hu, hc⟩ := Rd.cell hrd hlt
      have e1 : u = bv l[k] := by rw [List.getElem?_map, List.getElem?_eq_getElem hkl] at hu; exact (Option.some.inj hu).symm
      subst e1
      have HT : Hid (hexL (l.take (k + 1)) = hexL (l.take k) ++ [hexl (l[k] >>> 4), hexl (l[k] &&& 15)]) := Lib.hid (by rw [List.take_succ_eq_append_getElem hkl, hexL_snoc])
      clear hrd hu
      generalize l[k] = x at *
      have hc2 : wr.cell? (ad.add k) = some (.int .u8 (x.toNat : Int)) := hc
      clear hc
      have hbl := x.toNat_lt
      have wk0 : (0 : Int) ≤ (k : Int) := by omega
      have wk1 : (k : Int) < (n : Int) := by omega
      have wk2 : ((k : Int)).toNat = k := by omega
      have q0 : (0 : Int) ≤ (x.toNat : Int) / 16 := by omega
      have q1 : (x.toNat : Int) / 16 < 16 := by omega
      have q3 : (0 : Int) ≤ (x.toNat : Int) % 16 := by omega
      have q4 : (x.toNat : Int) % 16 < 16 := by omega
      have q2 := u8_and15 (x := (x.toNat : Int)) (by omega) (by omega)
      go_wp2
      go_region_law (refine st_app _ el_bR rfl _ _ rfl w.heap.size _ _ _ _ rfl (hown.alloc _).drew (wr.heap.size + 1) _ 2 2 _ rfl (Rd.lit wr _ _ 2 rfl).drew (by intro u hu; simp at hu; rcases hu with rfl | rfl <;> rfl) (by omega) (by simp; omega) ?_; intro A3 c3 w3 hown3 hbel3 _)
      all_goals
        simp only [hexl_div, hexl_mod, hexl_divN, hexl_modN] at hown3
        go_wp2
        have hs3 := hbel3.size
        refine ⟨⟨k + 1, A3, c3, by omega, by go_num, rfl, ?_, hkp.trans (((Below.refl _ _).alloc (by omega) _).drew.trans hbel3), by simp at hs3; omega⟩, by simp [intOf]; omega⟩
        rw [HT.out, List.map_append]
        exact hown3
    · have hkn : k = n := by omega
      have d1 : decide ((k : Int) < (n : Int)) = false := by simp; omega
      have ht := Lib.hid (List.take_of_length_le (l := l) (i := k) (by rw [HN.out]; omega))
      have hconv := run_conv (P := Tryz.prog) wr 36 9 5 el_bR.ht Tryz.underlying5 Tryz.underlying9 (c := c') (hown.rd)
      clear hkn
      go_wp2
      go_ret
      exact ⟨ret_str (by rw [ht.out]), hkp⟩
set_option maxHeartbeats 3200000 in
theorem refFormat_any (w : World) (d : List UInt8) (hd : d.length = 32) :
    Calls Tryz.prog 23 #[.agg (d.map bv).toArray] w fun e w' => e = .returned (.string ⟨(fmtL d).toArray⟩) ∧ Below w.heap.size w w' := by
  have hR : All w [.kept w w.heap.size] := ⟨⟨Below.refl _ _, Nat.le_refl _⟩, trivial⟩
  have HD := Lib.hid hd
  clear hd
  have hR1 : All (w.alloc (.cells (d.map bv).toArray 32)) [.own (w.heap.size + 1) 5 1 none 0 0 ((d.take 0).map bv), .cells w.heap.size 32 (d.map bv), .kept w w.heap.size] := ⟨Go.Adm.Own.nil _ _ _ _, hR.new (l := d.map bv) _ _ rfl rfl⟩
  have hs1 : w.heap.size + 1 ≤ (w.alloc (.cells (d.map bv).toArray 32)).heap.size := by simp
  clear hR
  go_enter Tryz.func23, Tryz.ntmps23
  go_upto_region 1 with (fail)
  refine wp_genP (Pr := fun W => All W [.own (w.heap.size + 1) 5 1 none 0 0 ((d.take 0).map bv), .cells w.heap.size 32 (d.map bv), .kept w w.heap.size] ∧ w.heap.size + 1 ≤ W.heap.size) ⟨hR1, hs1⟩ ?_
  clear hR1 hs1
  rintro W1 ⟨hI0, hs0⟩
  go_wp2
  go_loopw [3, 4] (fun v i wr => ∃ (k : Nat) (A' : Option Addr) (c' : Nat), k ≤ 32 ∧ i = .int .i64 k ∧ v = .slice A' k c' ∧ w.heap.size + 1 ≤ wr.heap.size ∧ All wr [.own (w.heap.size + 1) 5 1 A' k c' ((d.take k).map bv), .cells w.heap.size 32 (d.map bv), .kept w w.heap.size]) (fun _ i _ => 32 - (intOf i).toNat)
  case atStart => exact ⟨0, none, 0, by omega, rfl, rfl, hs0, hI0⟩
  case round =>
    obtain ⟨k, A', c', hk, rfl, rfl, hsr, hI⟩ := hrel
    clear hI0 hs0
    by_cases hlt : k < 32
    · have hkl : k < d.length := by rw [HD.out]; exact hlt
      have d1 : decide ((k : Int) < 32) = true := by simp; omega
      have c0 : wr.cell? ⟨w.heap.size, k, none⟩ = some (.int .u8 (d[k].toNat : Int)) := by
        have := Cells.cell (hI.at_ 1 rfl) (i := k) (by simp [hkl])
        rw [List.getElem_map] at this
        exact this
      have HT : Hid (d.take (k + 1) = d.take k ++ [d[k]]) := Lib.hid (List.take_succ_eq_append_getElem hkl)
      generalize d[k] = x at *
      have wk0 : (0 : Int) ≤ (k : Int) := by omega
      have wk1 : (k : Int) < 32 := by omega
      have wk2 : ((k : Int)).toNat = k := by omega
      go_wp2_with (first
        | (at_builtin; refine wl_app_at el_bR (hI.alloc _) 0 rfl (.tmp 9) (.tmp 13) rfl (w.heap.size + 1) _ _ _ _ rfl rfl (wr.heap.size + 1) _ 1 1 [bv x] rfl (Rd.lit wr _ _ 1 rfl) (bv_one [x]) (by omega) (by simp; omega) (by intro g hg h; simp [Apart, Res.apart, Low.els] <;> omega) ?_; intro A7 c7 w7 hI7 hs7))
      refine ⟨⟨k + 1, A7, c7, by omega, by go_num, rfl, by simp at hs7; omega, ?_⟩, by simp [intOf]; omega⟩
      rw [HT.out, List.map_append]
      exact hI7
    · obtain rfl : k = 32 := by omega
      have d1 : decide (((32 : Nat) : Int) < 32) = false := by decide
      rw [List.take_of_length_le (by rw [HD.out]; omega)] at hI
      have hcx := refhex_any wr wr.heap.size A' 32 c' d (hI.at_ 0 rfl : Go.Adm.Own _ _ _ _ _ _ _ _).rd (by decide) (Nat.le_refl _)
      have hsz : (⟨(hexL d).toArray⟩ : ByteArray).size = 64 := by
        show (hexL d).toArray.size = 64
        rw [List.size_toArray, hexL_len, HD.out]
      have hcat : Hid (prefL ++ (⟨(hexL d).toArray⟩ : ByteArray).data.toList = fmtL d) := Lib.hid rfl
      obtain ⟨s, hs⟩ : ∃ s : ByteArray, ⟨(hexL d).toArray⟩ = s := ⟨_, rfl⟩
      rw [hs] at hcx hsz hcat
      clear hs
      go_wp2_with (go_at_call 46; refine hcx.mono ?_; clear hcx; rintro e w2 ⟨rfl, hb2⟩; have hR2 := hI.call hb2)
      go_ret
      exact ⟨ret_str hcat.out, (hR2.at_ 2 rfl).1⟩
end Go.Proofs.YtkcmaembpfakdaaGreatDoor

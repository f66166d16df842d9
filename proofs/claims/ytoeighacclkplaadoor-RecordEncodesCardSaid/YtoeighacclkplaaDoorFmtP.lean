/- The words of a digest: the program. -/
import Derived.Test.YtoeighacclkplaaDoorFmtD
import Derived.Test.YtoeighacclkplaaDoorGen2
import Derived.Test.YtoeighacclkplaaDoorLayW
import Derived.Deep.QuietTactic
import Derived.IntWalk
import Derived.Deep.Cut
set_option linter.unusedSimpArgs false
set_option linter.unusedVariables false
set_option maxRecDepth 100000
namespace Go.Proofs.YtoeighacclkplaaDoor
open Go Go.RowKit Go.Adm Go.Shelf

theorem el_b8 : ElemOf Tryd.prog 30 5 (.int .u8 0) 1 1 := ElemOf.mk' Tryd.underlying30 (by kernel_rfl) rfl (by decide) (by decide)
theorem WriteByte_any (B b : Nat) (bs : List Value) (c : Int) (w : World) (h : Lib.IsBuilder 92 5 B b bs w) (hlen : bs.length + 1 ≤ 140737488355328) (hBw : B ≤ w.heap.size) :
    Calls Tryd.prog 62 #[.pointer (some ⟨b, 0, none⟩), .int .u8 c] w fun e w' => e = .returned .nilIface ∧ (Lib.BuilderAt 92 5 B b (.pointer (some ⟨b, 0, none⟩)) (bs ++ [.int .u8 c]) w' ∧ Below B w w') := Any.Builder_WriteByte Go.Proofs.Tryd.lays167 Go.Proofs.Tryd.Builder_Extra_167 B b bs c w h hlen hBw
theorem BString_any (B b : Nat) (l : List UInt8) (w : World) (h : Lib.IsBuilder 92 5 B b (Lib.byteCells l) w) (hBw : B ≤ w.heap.size) :
    Calls Tryd.prog 63 #[.pointer (some ⟨b, 0, none⟩)] w fun e w' => e = .returned (.string ⟨l.toArray⟩) ∧ Below B w w' := Any.Builder_String_any Go.Proofs.Tryd.lays169 Go.Proofs.Tryd.Builder_Extra_169 B b l w h hBw

set_option maxHeartbeats 3200000 in
theorem hex_any (w : World) (B : Nat) (A : Option Addr) (n c : Nat) (l : List UInt8) (hl : Rd w B 1 A n (l.map bv)) (hn2 : n ≤ 1000) (hB : B ≤ w.heap.size) :
    Calls Tryd.prog 46 #[.slice A n c] w fun e w' => e = .returned (.string ⟨(hexL l).toArray⟩) ∧ Below w.heap.size w w' := by
  have hn : l.length = n := by have := hl.len; simpa using this
  have HN := Lib.hid hn
  have HL := Lib.hid hl
  clear hl hn
  go_enter Tryd.func46, Tryd.ntmps46
  go_upto_region 2 with (fail)
  refine wp_genP (Pr := fun W => Lib.IsBuilder 92 5 w.heap.size w.heap.size (Lib.byteCells (hexL (l.take 0))) W ∧ Below w.heap.size w W ∧ w.heap.size ≤ W.heap.size) ⟨Lib.fresh_isBuilder _ _ _, (Below.refl _ _).alloc (Nat.le_refl _) _, by simp⟩ ?_
  rintro W0 ⟨hb0, hk0, hs0⟩
  go_wp2
  go_loopw [8] (fun i wr => ∃ (k : Nat), k ≤ n ∧ i = .int .i64 k ∧ Lib.IsBuilder 92 5 w.heap.size w.heap.size (Lib.byteCells (hexL (l.take k))) wr ∧ Below w.heap.size w wr ∧ w.heap.size ≤ wr.heap.size) (fun i _ => n - (intOf i).toNat)
  case atStart => exact ⟨0, by omega, rfl, hb0, hk0, hs0⟩
  case round =>
    obtain ⟨k, hk, rfl, hbd, hkp, hsr⟩ := hrel
    clear hb0 hk0 hs0
    by_cases hlt : k < n
    · have hkl : k < l.length := by rw [HN.out]; exact hlt
      have d1 : decide ((k : Int) < (n : Int)) = true := by simp; omega
      have hrd : Rd wr B 1 A n (l.map bv) := HL.out.keep fun p hp => hkp.cell (by omega)
      obtain ⟨ad, u, rfl, _, hu, hc⟩ := Rd.cell hrd hlt
      have e1 : u = bv l[k] := by rw [List.getElem?_map, List.getElem?_eq_getElem hkl] at hu; exact (Option.some.inj hu).symm
      subst e1
      have HT : Hid (hexL (l.take (k + 1)) = hexL (l.take k) ++ [hexl (l[k] >>> 4), hexl (l[k] &&& 15)]) := Lib.hid (by rw [List.take_succ_eq_append_getElem hkl, hexL_snoc])
      clear hrd hu
      generalize l[k] = x at *
      have hc2 : wr.cell? (ad.add k) = some (.int .u8 (x.toNat : Int)) := hc
      clear hc
      have hbl := x.toNat_lt
      have wk0 : (0 : Int) ≤ (k : Int) := by omega
      have wk1 : (k : Int) < (n : Int) := by omega
      have wk2 : ((k : Int)).toNat = k := by omega
      have q0 : (0 : Int) ≤ (x.toNat : Int) / 16 := by omega
      have q1 : (x.toNat : Int) / 16 < 16 := by omega
      have q3 : (0 : Int) ≤ (x.toNat : Int) % 16 := by omega
      have q4 : (x.toNat : Int) % 16 < 16 := by omega
      have q2 := u8_and15 (x := (x.toNat : Int)) (by omega) (by omega)
      have hlen : (Lib.byteCells (hexL (l.take k))).length ≤ 2000 := by rw [Lib.byteCells_length, hexL_len, List.length_take]; omega
      go_wp2_with fail
      simp only [hexl_div, hexl_divN]
      refine (WriteByte_any _ _ _ _ _ hbd (by omega) hsr).mono ?_
      rintro e w2 ⟨rfl, hb2, hk2⟩
      have hkp2 := hkp.trans hk2
      have hs2 := hk2.size
      go_wp2_with fail
      simp only [hexl_mod, hexl_modN]
      refine (WriteByte_any _ _ _ _ _ (.inr hb2) (by rw [List.length_append]; simp; omega) (by omega)).mono ?_
      rintro e w3 ⟨rfl, hb3, hk3⟩
      have hs3 := hk3.size
      go_wp2_with fail
      refine ⟨⟨k + 1, by omega, by go_num, ?_, hkp2.trans hk3, by omega⟩, by simp [intOf]; omega⟩
      rw [HT.out, Lib.byteCells_append]
      refine .inr ?_
      rw [List.append_assoc] at hb3
      exact hb3
    · have hkn : k = n := by omega
      have d1 : decide ((k : Int) < (n : Int)) = false := by simp; omega
      rw [List.take_of_length_le (by rw [HN.out]; omega)] at hbd
      go_wp2_with fail
      refine (BString_any _ _ _ _ hbd hsr).mono ?_
      rintro e w2 ⟨rfl, hk2⟩
      have hkp2 := hkp.trans hk2
      go_wp2_with fail
      go_ret
      exact ⟨rfl, hkp2⟩
set_option maxHeartbeats 3200000 in
theorem Format_any (w : World) (d : List UInt8) (hd : d.length = 32) :
    Calls Tryd.prog 33 #[.agg (d.map bv).toArray] w fun e w' => e = .returned (.string ⟨(fmtL d).toArray⟩) ∧ Below w.heap.size w w' := by
  have hR : All w [.kept w w.heap.size] := ⟨⟨Below.refl _ _, Nat.le_refl _⟩, trivial⟩
  have HD := Lib.hid hd
  clear hd
  go_enter Tryd.func33, Tryd.ntmps33
  go_upto_region 1 with (fail)
  refine wp_gen (hR.new (l := d.map bv) _ 44 rfl rfl) ?_
  intro w1 hR1
  have hrd : Rd w1 w1.heap.size 1 (some ⟨w.heap.size, 0, none⟩) 32 (d.map bv) := by
    have h1 := Cells.rd (hR1.at_ 0 rfl : Cells w1 w.heap.size _ (d.map bv)) (o := 0) (n := 32) (by rw [List.length_map, HD.out]; omega)
    rw [List.drop_zero, List.take_of_length_le (by rw [List.length_map, HD.out]; omega)] at h1
    exact h1.mono (Cells.lt (hR1.at_ 0 rfl))
  have hcx := hex_any w1 w1.heap.size (some ⟨w.heap.size, 0, none⟩) 32 32 d hrd (by decide) (Nat.le_refl _)
  have hsz : (⟨(hexL d).toArray⟩ : ByteArray).size = 64 := by
    show (hexL d).toArray.size = 64
    rw [List.size_toArray, hexL_len, HD.out]
  have hcat : Hid (prefL ++ (⟨(hexL d).toArray⟩ : ByteArray).data.toList = fmtL d) := Lib.hid rfl
  clear hrd
  obtain ⟨s, hs⟩ : ∃ s : ByteArray, ⟨(hexL d).toArray⟩ = s := ⟨_, rfl⟩
  rw [hs] at hcx hsz hcat
  clear hs
  go_wp2_with (go_at_call 46; refine hcx.mono ?_; clear hcx; rintro e w2 ⟨rfl, hb2⟩; have hR2 := hR1.call hb2)
  go_ret
  exact ⟨ret_str hcat.out, (hR2.at_ 1 rfl).1⟩
end Go.Proofs.YtoeighacclkplaaDoor

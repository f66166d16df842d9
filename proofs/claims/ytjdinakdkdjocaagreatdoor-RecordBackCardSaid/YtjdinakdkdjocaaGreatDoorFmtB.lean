/- The words of a digest, in plain Lean. Layings of the shelf at this program, as the kit's lay-plain.mjs writes them; the one of WriteByte (lays167) in the same form, by hand: its structure names two types that the bodies do not. The words of a digest: the program. -/
import Derived.Test.YtjdinakdkdjocaaGreatDoorGen1
import Derived.Shelf.Small.Wraps
import Derived.Shelf.Strings.Builder1
import Derived.Test.YtjdinakdkdjocaaGreatDoorProg
import Derived.Test.YtjdinakdkdjocaaGreatDoorGen2
import Derived.Deep.QuietTactic
import Derived.IntWalk
import Derived.Deep.Cut
set_option linter.unusedSimpArgs false
set_option linter.unusedVariables false
set_option maxRecDepth 100000
namespace Go.Adm
open Go Go.RowKit
def hexl (c : UInt8) : UInt8 := if c < 10 then 48 + c else 87 + c
def hexL (l : List UInt8) : List UInt8 := l.flatMap fun (b : UInt8) => [hexl (b >>> 4), hexl (b &&& 15)]
def prefL : List UInt8 := [115, 104, 97, 50, 53, 54, 58]
def fmtL (d : List UInt8) : List UInt8 := prefL ++ hexL d
theorem hexL_len (l : List UInt8) : (hexL l).length = 2 * l.length := by
  induction l with
  | nil => rfl
  | cons b l ih => rw [hexL, List.flatMap_cons, List.length_append, show (l.flatMap fun (b : UInt8) => [hexl (b >>> 4), hexl (b &&& 15)]) = hexL l from rfl, ih]; simp; omega
theorem hexL_snoc (l : List UInt8) (b : UInt8) : hexL (l ++ [b]) = hexL l ++ [hexl (b >>> 4), hexl (b &&& 15)] := by
  unfold hexL
  rw [List.flatMap_append]
  simp
def hexTl : ByteArray := ⟨#[48, 49, 50, 51, 52, 53, 54, 55, 56, 57, 97, 98, 99, 100, 101, 102]⟩
theorem hexl_fin : ∀ n : Fin 16, hexTl[n.val]'(show n.val < 16 from n.isLt) = hexl (UInt8.ofNat n.val) := by decide +kernel
theorem hexl_of (i : Int) (n : Nat) (hn : n < 16) (e : i.toNat = n) (h : i.toNat < 16) : (⟨#[48, 49, 50, 51, 52, 53, 54, 55, 56, 57, 97, 98, 99, 100, 101, 102]⟩ : ByteArray)[i.toNat]'h = hexl (UInt8.ofNat n) := by
  subst e
  exact hexl_fin ⟨i.toNat, h⟩
theorem hexl_div (c : UInt8) (h : ((c.toNat : Int) / 16).toNat < 16) : (⟨#[48, 49, 50, 51, 52, 53, 54, 55, 56, 57, 97, 98, 99, 100, 101, 102]⟩ : ByteArray)[((c.toNat : Int) / 16).toNat]'h = hexl (c >>> 4) := by
  have e : UInt8.ofNat (c.toNat / 16) = c >>> 4 := by
    apply UInt8.toNat_inj.1
    have := c.toNat_lt
    rw [UInt8.toNat_shiftRight, Nat.shiftRight_eq_div_pow]
    simp
    omega
  rw [hexl_of _ (c.toNat / 16) (by have := c.toNat_lt; omega) (by omega) h, e]
theorem hexl_mod (c : UInt8) (h : ((c.toNat : Int) % 16).toNat < 16) : (⟨#[48, 49, 50, 51, 52, 53, 54, 55, 56, 57, 97, 98, 99, 100, 101, 102]⟩ : ByteArray)[((c.toNat : Int) % 16).toNat]'h = hexl (c &&& 15) := by
  have e : UInt8.ofNat (c.toNat % 16) = c &&& 15 := by
    apply UInt8.toNat_inj.1
    rw [UInt8.toNat_and, show (15 : UInt8).toNat = 2 ^ 4 - 1 from rfl, Nat.and_two_pow_sub_one_eq_mod]
    simp
    omega
  rw [hexl_of _ (c.toNat % 16) (by omega) (by omega) h, e]
theorem hexl_divN (c : UInt8) (h : c.toNat / 16 < 16) : (⟨#[48, 49, 50, 51, 52, 53, 54, 55, 56, 57, 97, 98, 99, 100, 101, 102]⟩ : ByteArray)[c.toNat / 16]'h = hexl (c >>> 4) := hexl_div c (by have := c.toNat_lt; omega)
theorem hexl_modN (c : UInt8) (h : c.toNat % 16 < 16) : (⟨#[48, 49, 50, 51, 52, 53, 54, 55, 56, 57, 97, 98, 99, 100, 101, 102]⟩ : ByteArray)[c.toNat % 16]'h = hexl (c &&& 15) := hexl_mod c (by omega)
theorem fmt_size {d : List UInt8} (h : d.length = 32) : (⟨(fmtL d).toArray⟩ : ByteArray).size = 71 := by
  show (fmtL d).toArray.size = 71
  rw [List.size_toArray, fmtL, List.length_append, hexL_len, h]; rfl
end Go.Adm
set_option maxRecDepth 100000
namespace Go.Proofs
open Go.Shelf
def Tryz.lays169_ren : Go.Shelf.Ren := ⟨fun | 169 => 109 | n => n, fun | 70 => 140 | 9 => 9 | 0 => 0 | 72 => 142 | 37 => 22 | 127 => 156 | 3 => 3 | 5 => 5 | n => n, fun | n => n⟩
theorem Tryz.lays169 : Go.Proofs.Lays.n169 Tryz.prog Tryz.lays169_ren := {
  mixed := by kernel_rfl
  f169 := Tryz.func109.trans (congrArg some (by kernel_rfl))
  t0 := Tryz.underlying0
  a0 := Tryz.isAgg0
  z0 := Tryz.sizeOf0
  v0 := Tryz.zeroValue0
  t3 := Tryz.underlying3
  a3 := Tryz.isAgg3
  z3 := Tryz.sizeOf3
  v3 := Tryz.zeroValue3
  t9 := Tryz.underlying9
  a9 := Tryz.isAgg9
  z9 := Tryz.sizeOf9
  v9 := Tryz.zeroValue9
  t37 := Tryz.underlying22
  a37 := Tryz.isAgg22
  z37 := Tryz.sizeOf22
  v37 := Tryz.zeroValue22
  t70 := Tryz.underlying140
  a70 := Tryz.isAgg140
  z70 := Tryz.sizeOf140
  v70 := Tryz.zeroValue140
  t72 := Tryz.underlying142
  a72 := Tryz.isAgg142
  z72 := Tryz.sizeOf142
  v72 := Tryz.zeroValue142
  t127 := Tryz.underlying156
  a127 := Tryz.isAgg156
  z127 := Tryz.sizeOf156
  v127 := Tryz.zeroValue156 }
theorem Tryz.Builder_Extra_169 : Builder.Extra Tryz.prog Tryz.lays169_ren := {
  sizeBuilder := by kernel_rfl
  liesBuilder := by kernel_rfl
  t5 := Tryz.underlying5
  a5 := Tryz.isAgg5
  z5 := Tryz.sizeOf5
  v5 := Tryz.zeroValue5
  infoByte := by kernel_rfl
  cellsByte := by kernel_rfl
  sizeByte := by kernel_rfl
  neB5 := by decide }
def Tryz.lays167_ren : Go.Shelf.Ren := ⟨fun | 167 => 108 | 240 => 125 | 276 => 131 | n => n, fun | 0 => 0 | 4 => 4 | 5 => 5 | 9 => 9 | 20 => 20 | 37 => 22 | 70 => 140 | 72 => 142 | 75 => 144 | 80 => 112 | 164 => 162 | n => n, fun | n => n⟩
theorem Tryz.lays167 : Go.Proofs.Lays.n167 Tryz.prog Tryz.lays167_ren := {
  mixed := by kernel_rfl
  f167 := Tryz.func108.trans (congrArg some (by kernel_rfl))
  f240 := Tryz.func125.trans (congrArg some (by kernel_rfl))
  f276 := Tryz.func131.trans (congrArg some (by kernel_rfl))
  t0 := Tryz.underlying0
  a0 := Tryz.isAgg0
  z0 := Tryz.sizeOf0
  v0 := Tryz.zeroValue0
  t4 := Tryz.underlying4
  a4 := Tryz.isAgg4
  z4 := Tryz.sizeOf4
  v4 := Tryz.zeroValue4
  t5 := Tryz.underlying5
  a5 := Tryz.isAgg5
  z5 := Tryz.sizeOf5
  v5 := Tryz.zeroValue5
  t9 := Tryz.underlying9
  a9 := Tryz.isAgg9
  z9 := Tryz.sizeOf9
  v9 := Tryz.zeroValue9
  t20 := Tryz.underlying20
  a20 := Tryz.isAgg20
  z20 := Tryz.sizeOf20
  v20 := Tryz.zeroValue20
  t37 := Tryz.underlying22
  a37 := Tryz.isAgg22
  z37 := Tryz.sizeOf22
  v37 := Tryz.zeroValue22
  t70 := Tryz.underlying140
  a70 := Tryz.isAgg140
  z70 := Tryz.sizeOf140
  v70 := Tryz.zeroValue140
  t72 := Tryz.underlying142
  a72 := Tryz.isAgg142
  z72 := Tryz.sizeOf142
  v72 := Tryz.zeroValue142
  t75 := Tryz.underlying144
  a75 := Tryz.isAgg144
  z75 := Tryz.sizeOf144
  v75 := Tryz.zeroValue144
  t164 := Tryz.underlying162
  a164 := Tryz.isAgg162
  z164 := Tryz.sizeOf162
  v164 := Tryz.zeroValue162 }
theorem Tryz.Builder_Extra_167 : Builder.Extra Tryz.prog Tryz.lays167_ren := {
  sizeBuilder := by kernel_rfl
  liesBuilder := by kernel_rfl
  t5 := Tryz.underlying5
  a5 := Tryz.isAgg5
  z5 := Tryz.sizeOf5
  v5 := Tryz.zeroValue5
  infoByte := by kernel_rfl
  cellsByte := by kernel_rfl
  sizeByte := by kernel_rfl
  neB5 := by decide }
end Go.Proofs
set_option linter.unusedSimpArgs false
set_option linter.unusedVariables false
set_option maxRecDepth 100000
namespace Go.Proofs.YtjdinakdkdjocaaGreatDoor
open Go Go.RowKit Go.Adm Go.Shelf

theorem el_b8 : ElemOf Tryz.prog 22 5 (.int .u8 0) 1 1 := ElemOf.mk' Tryz.underlying22 (by kernel_rfl) rfl (by decide) (by decide)
theorem WriteByte_any (B b : Nat) (bs : List Value) (c : Int) (w : World) (h : Lib.IsBuilder 142 5 B b bs w) (hlen : bs.length + 1 ≤ 140737488355328) (hBw : B ≤ w.heap.size) :
    Calls Tryz.prog 108 #[.pointer (some ⟨b, 0, none⟩), .int .u8 c] w fun e w' => e = .returned .nilIface ∧ (Lib.BuilderAt 142 5 B b (.pointer (some ⟨b, 0, none⟩)) (bs ++ [.int .u8 c]) w' ∧ Below B w w') := Any.Builder_WriteByte Go.Proofs.Tryz.lays167 Go.Proofs.Tryz.Builder_Extra_167 B b bs c w h hlen hBw
theorem BString_any (B b : Nat) (l : List UInt8) (w : World) (h : Lib.IsBuilder 142 5 B b (Lib.byteCells l) w) (hBw : B ≤ w.heap.size) :
    Calls Tryz.prog 109 #[.pointer (some ⟨b, 0, none⟩)] w fun e w' => e = .returned (.string ⟨l.toArray⟩) ∧ Below B w w' := Any.Builder_String_any Go.Proofs.Tryz.lays169 Go.Proofs.Tryz.Builder_Extra_169 B b l w h hBw

set_option maxHeartbeats 3200000 in
theorem hex_any (w : World) (B : Nat) (A : Option Addr) (n c : Nat) (l : List UInt8) (hl : Rd w B 1 A n (l.map bv)) (hn2 : n ≤ 1000) (hB : B ≤ w.heap.size) :
    Calls Tryz.prog 88 #[.slice A n c] w fun e w' => e = .returned (.string ⟨(hexL l).toArray⟩) ∧ Below w.heap.size w w' := by
  have hn : l.length = n := by have := hl.len; simpa using this
  have HN := Lib.hid hn
  have HL := Lib.hid hl
  clear hl hn
  go_enter Tryz.func88, Tryz.ntmps88
  go_upto_region 2 with (fail)
  refine wp_genP (Pr := fun W => Lib.IsBuilder 142 5 w.heap.size w.heap.size (Lib.byteCells (hexL (l.take 0))) W ∧ Below w.heap.size w W ∧ w.heap.size ≤ W.heap.size) ⟨Lib.fresh_isBuilder _ _ _, (Below.refl _ _).alloc (Nat.le_refl _) _, by simp⟩ ?_
  rintro W0 ⟨hb0, hk0, hs0⟩
  go_wp2
  go_loopw [8] (fun i wr => ∃ (k : Nat), k ≤ n ∧ i = .int .i64 k ∧ Lib.IsBuilder 142 5 w.heap.size w.heap.size (Lib.byteCells (hexL (l.take k))) wr ∧ Below w.heap.size w wr ∧ w.heap.size ≤ wr.heap.size) (fun i _ => n - (intOf i).toNat)
  case atStart => exact ⟨0, by omega, rfl, hb0, hk0, hs0⟩
  case round =>
    obtain ⟨k, hk, rfl, hbd, hkp, hsr⟩ := hrel
    clear hb0 hk0 hs0
    by_cases hlt : k < n
    · have hkl : k < l.length := by rw [HN.out]; exact hlt
      have d1 : decide ((k : Int) < (n : Int)) = true := by simp; omega
      have hrd : Rd wr B 1 A n (l.map bv) := HL.out.keep fun p hp => hkp.cell (by omega)
      obtain ⟨ad, u, rfl, _, hu, hc⟩ := Rd.cell hrd hlt
      have e1 : u = bv l[k] := by rw [List.getElem?_map, List.getElem?_eq_getElem hkl] at hu; exact (Option.some.inj hu).symm
      subst e1
      have HT : Hid (hexL (l.take (k + 1)) = hexL (l.take k) ++ [hexl (l[k] >>> 4), hexl (l[k] &&& 15)]) := Lib.hid (by rw [List.take_succ_eq_append_getElem hkl, hexL_snoc])
      clear hrd hu
      generalize l[k] = x at *
      have hc2 : wr.cell? (ad.add k) = some (.int .u8 (x.toNat : Int)) := hc
      clear hc
      have hbl := x.toNat_lt
      have wk0 : (0 : Int) ≤ (k : Int) := by omega
      have wk1 : (k : Int) < (n : Int) := by omega
      have wk2 : ((k : Int)).toNat = k := by omega
      have q0 : (0 : Int) ≤ (x.toNat : Int) / 16 := by omega
      have q1 : (x.toNat : Int) / 16 < 16 := by omega
      have q3 : (0 : Int) ≤ (x.toNat : Int) % 16 := by omega
      have q4 : (x.toNat : Int) % 16 < 16 := by omega
      have q2 := u8_and15 (x := (x.toNat : Int)) (by omega) (by omega)
      have hlen : (Lib.byteCells (hexL (l.take k))).length ≤ 2000 := by rw [Lib.byteCells_length, hexL_len, List.length_take]; omega
      go_wp2_with fail
      simp only [hexl_div, hexl_divN]
      refine (WriteByte_any _ _ _ _ _ hbd (by omega) hsr).mono ?_
      rintro e w2 ⟨rfl, hb2, hk2⟩
      have hkp2 := hkp.trans hk2
      have hs2 := hk2.size
      go_wp2_with fail
      simp only [hexl_mod, hexl_modN]
      refine (WriteByte_any _ _ _ _ _ (.inr hb2) (by rw [List.length_append]; simp; omega) (by omega)).mono ?_
      rintro e w3 ⟨rfl, hb3, hk3⟩
      have hs3 := hk3.size
      go_wp2_with fail
      refine ⟨⟨k + 1, by omega, by go_num, ?_, hkp2.trans hk3, by omega⟩, by simp [intOf]; omega⟩
      rw [HT.out, Lib.byteCells_append]
      refine .inr ?_
      rw [List.append_assoc] at hb3
      exact hb3
    · have hkn : k = n := by omega
      have d1 : decide ((k : Int) < (n : Int)) = false := by simp; omega
      rw [List.take_of_length_le (by rw [HN.out]; omega)] at hbd
      go_wp2_with fail
      refine (BString_any _ _ _ _ hbd hsr).mono ?_
      rintro e w2 ⟨rfl, hk2⟩
      have hkp2 := hkp.trans hk2
      go_wp2_with fail
      go_ret
      exact ⟨rfl, hkp2⟩
set_option maxHeartbeats 3200000 in
theorem Format_any (w : World) (d : List UInt8) (hd : d.length = 32) :
    Calls Tryz.prog 66 #[.agg (d.map bv).toArray] w fun e w' => e = .returned (.string ⟨(fmtL d).toArray⟩) ∧ Below w.heap.size w w' := by
  have hR : All w [.kept w w.heap.size] := ⟨⟨Below.refl _ _, Nat.le_refl _⟩, trivial⟩
  have HD := Lib.hid hd
  clear hd
  go_enter Tryz.func66, Tryz.ntmps66
  go_upto_region 1 with (fail)
  refine wp_gen (hR.new (l := d.map bv) _ 68 rfl rfl) ?_
  intro w1 hR1
  have hrd : Rd w1 w1.heap.size 1 (some ⟨w.heap.size, 0, none⟩) 32 (d.map bv) := by
    have h1 := Cells.rd (hR1.at_ 0 rfl : Cells w1 w.heap.size _ (d.map bv)) (o := 0) (n := 32) (by rw [List.length_map, HD.out]; omega)
    rw [List.drop_zero, List.take_of_length_le (by rw [List.length_map, HD.out]; omega)] at h1
    exact h1.mono (Cells.lt (hR1.at_ 0 rfl))
  have hcx := hex_any w1 w1.heap.size (some ⟨w.heap.size, 0, none⟩) 32 32 d hrd (by decide) (Nat.le_refl _)
  have hsz : (⟨(hexL d).toArray⟩ : ByteArray).size = 64 := by
    show (hexL d).toArray.size = 64
    rw [List.size_toArray, hexL_len, HD.out]
  have hcat : Hid (prefL ++ (⟨(hexL d).toArray⟩ : ByteArray).data.toList = fmtL d) := Lib.hid rfl
  clear hrd
  obtain ⟨s, hs⟩ : ∃ s : ByteArray, ⟨(hexL d).toArray⟩ = s := ⟨_, rfl⟩
  rw [hs] at hcx hsz hcat
  clear hs
  go_wp2_with (go_at_call 88; refine hcx.mono ?_; clear hcx; rintro e w2 ⟨rfl, hb2⟩; have hR2 := hR1.call hb2)
  go_ret
  exact ⟨ret_str hcat.out, (hR2.at_ 1 rfl).1⟩
end Go.Proofs.YtjdinakdkdjocaaGreatDoor

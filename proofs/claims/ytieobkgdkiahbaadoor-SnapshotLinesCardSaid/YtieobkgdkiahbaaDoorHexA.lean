/- Hexadecimal texts of digests: both sides make the same. Format on both sides. The lines of a snapshot, both sides. -/
import Derived.Test.YtieobkgdkiahbaaDoorSnap3
import Derived.Test.YtieobkgdkiahbaaDoorLayB
import Derived.Deep.QuietTactic
import Derived.IntWalk
import Derived.Test.YtieobkgdkiahbaaDoorSnap1
import Derived.Test.YtieobkgdkiahbaaDoorSnapMem
set_option linter.unusedSimpArgs false
set_option linter.unusedVariables false
set_option maxRecDepth 100000
namespace Go.Adm
open Go Go.RowKit
def hexl (c : UInt8) : UInt8 := if c < 10 then 48 + c else 87 + c
def hexL (l : List UInt8) : List UInt8 := l.flatMap fun (b : UInt8) => [hexl (b >>> 4), hexl (b &&& 15)]
def prefL : List UInt8 := [115, 104, 97, 50, 53, 54, 58]
def fmtL (d : List UInt8) : List UInt8 := prefL ++ hexL d
theorem hexL_len (l : List UInt8) : (hexL l).length = 2 * l.length := by
  induction l with
  | nil => rfl
  | cons b l ih => rw [hexL, List.flatMap_cons, List.length_append, show (l.flatMap fun (b : UInt8) => [hexl (b >>> 4), hexl (b &&& 15)]) = hexL l from rfl, ih]; simp; omega
theorem hexL_snoc (l : List UInt8) (b : UInt8) : hexL (l ++ [b]) = hexL l ++ [hexl (b >>> 4), hexl (b &&& 15)] := by
  unfold hexL
  rw [List.flatMap_append]
  simp
def hexTl : ByteArray := ⟨#[48, 49, 50, 51, 52, 53, 54, 55, 56, 57, 97, 98, 99, 100, 101, 102]⟩
theorem hexl_fin : ∀ n : Fin 16, hexTl[n.val]'(show n.val < 16 from n.isLt) = hexl (UInt8.ofNat n.val) := by decide +kernel
theorem hexl_of (i : Int) (n : Nat) (hn : n < 16) (e : i.toNat = n) (h : i.toNat < 16) : (⟨#[48, 49, 50, 51, 52, 53, 54, 55, 56, 57, 97, 98, 99, 100, 101, 102]⟩ : ByteArray)[i.toNat]'h = hexl (UInt8.ofNat n) := by
  subst e
  exact hexl_fin ⟨i.toNat, h⟩
theorem hexl_div (c : UInt8) (h : ((c.toNat : Int) / 16).toNat < 16) : (⟨#[48, 49, 50, 51, 52, 53, 54, 55, 56, 57, 97, 98, 99, 100, 101, 102]⟩ : ByteArray)[((c.toNat : Int) / 16).toNat]'h = hexl (c >>> 4) := by
  have e : UInt8.ofNat (c.toNat / 16) = c >>> 4 := by
    apply UInt8.toNat_inj.1
    have := c.toNat_lt
    rw [UInt8.toNat_shiftRight, Nat.shiftRight_eq_div_pow]
    simp
    omega
  rw [hexl_of _ (c.toNat / 16) (by have := c.toNat_lt; omega) (by omega) h, e]
theorem hexl_mod (c : UInt8) (h : ((c.toNat : Int) % 16).toNat < 16) : (⟨#[48, 49, 50, 51, 52, 53, 54, 55, 56, 57, 97, 98, 99, 100, 101, 102]⟩ : ByteArray)[((c.toNat : Int) % 16).toNat]'h = hexl (c &&& 15) := by
  have e : UInt8.ofNat (c.toNat % 16) = c &&& 15 := by
    apply UInt8.toNat_inj.1
    rw [UInt8.toNat_and, show (15 : UInt8).toNat = 2 ^ 4 - 1 from rfl, Nat.and_two_pow_sub_one_eq_mod]
    simp
    omega
  rw [hexl_of _ (c.toNat % 16) (by omega) (by omega) h, e]
theorem hexl_divN (c : UInt8) (h : c.toNat / 16 < 16) : (⟨#[48, 49, 50, 51, 52, 53, 54, 55, 56, 57, 97, 98, 99, 100, 101, 102]⟩ : ByteArray)[c.toNat / 16]'h = hexl (c >>> 4) := hexl_div c (by have := c.toNat_lt; omega)
theorem hexl_modN (c : UInt8) (h : c.toNat % 16 < 16) : (⟨#[48, 49, 50, 51, 52, 53, 54, 55, 56, 57, 97, 98, 99, 100, 101, 102]⟩ : ByteArray)[c.toNat % 16]'h = hexl (c &&& 15) := hexl_mod c (by omega)
end Go.Adm
namespace Go.Proofs.YtieobkgdkiahbaaDoor
open Go Go.RowKit Go.Adm Go.Shelf

theorem el_b8 : ElemOf Tryd.prog 54 5 (.int .u8 0) 1 1 := ElemOf.mk' Tryd.underlying54 (by kernel_rfl) rfl (by decide) (by decide)
theorem WriteByte_any (B b : Nat) (bs : List Value) (c : Int) (w : World) (h : Lib.IsBuilder 138 5 B b bs w) (hlen : bs.length + 1 ≤ 140737488355328) (hBw : B ≤ w.heap.size) :
    Calls Tryd.prog 109 #[.pointer (some ⟨b, 0, none⟩), .int .u8 c] w fun e w' => e = .returned .nilIface ∧ (Lib.BuilderAt 138 5 B b (.pointer (some ⟨b, 0, none⟩)) (bs ++ [.int .u8 c]) w' ∧ Below B w w') := Any.Builder_WriteByte Go.Proofs.Tryd.lays167 Go.Proofs.Tryd.Builder_Extra_167 B b bs c w h hlen hBw
theorem BString_any (B b : Nat) (l : List UInt8) (w : World) (h : Lib.IsBuilder 138 5 B b (Lib.byteCells l) w) (hBw : B ≤ w.heap.size) :
    Calls Tryd.prog 110 #[.pointer (some ⟨b, 0, none⟩)] w fun e w' => e = .returned (.string ⟨l.toArray⟩) ∧ Below B w w' := Any.Builder_String_any Go.Proofs.Tryd.lays169 Go.Proofs.Tryd.Builder_Extra_169 B b l w h hBw

set_option maxHeartbeats 3200000 in
theorem hex_any (w : World) (B : Nat) (A : Option Addr) (n c : Nat) (l : List UInt8) (hl : Rd w B 1 A n (l.map bv)) (hn2 : n ≤ 1000) (hB : B ≤ w.heap.size) :
    Calls Tryd.prog 85 #[.slice A n c] w fun e w' => e = .returned (.string ⟨(hexL l).toArray⟩) ∧ Below w.heap.size w w' := by
  have hn : l.length = n := by have := hl.len; simpa using this
  have HN := Lib.hid hn
  have HL := Lib.hid hl
  clear hl hn
  go_enter Tryd.func85, Tryd.ntmps85
  go_upto_region 2 with (fail)
  refine wp_genP (Pr := fun W => Lib.IsBuilder 138 5 w.heap.size w.heap.size (Lib.byteCells (hexL (l.take 0))) W ∧ Below w.heap.size w W ∧ w.heap.size ≤ W.heap.size) ⟨Lib.fresh_isBuilder _ _ _, (Below.refl _ _).alloc (Nat.le_refl _) _, by simp⟩ ?_
  rintro W0 ⟨hb0, hk0, hs0⟩
  go_wp2
  go_loopw [8] (fun i wr => ∃ (k : Nat), k ≤ n ∧ i = .int .i64 k ∧ Lib.IsBuilder 138 5 w.heap.size w.heap.size (Lib.byteCells (hexL (l.take k))) wr ∧ Below w.heap.size w wr ∧ w.heap.size ≤ wr.heap.size) (fun i _ => n - (intOf i).toNat)
  case atStart => exact ⟨0, by omega, rfl, hb0, hk0, hs0⟩
  case round =>
    obtain ⟨k, hk, rfl, hbd, hkp, hsr⟩ := hrel
    clear hb0 hk0 hs0
    by_cases hlt : k < n
    · have hkl : k < l.length := by rw [HN.out]; exact hlt
      have d1 : decide ((k : Int) < (n : Int)) = true := by simp; omega
      have hrd : Rd wr B 1 A n (l.map bv) := HL.out.keep fun p hp => hkp.cell (by omega)
      obtain ⟨ad, u, rfl, _, hu, hc⟩ := Rd.cell hrd hlt
      have e1 : u = bv l[k] := by rw [List.getElem?_map, List.getElem?_eq_getElem hkl] at hu; exact (Option.some.inj hu).symm
      subst e1
      have HT : Hid (hexL (l.take (k + 1)) = hexL (l.take k) ++ [hexl (l[k] >>> 4), hexl (l[k] &&& 15)]) := Lib.hid (by rw [List.take_succ_eq_append_getElem hkl, hexL_snoc])
      clear hrd hu
      generalize l[k] = x at *
      have hc2 : wr.cell? (ad.add k) = some (.int .u8 (x.toNat : Int)) := hc
      clear hc
      have hbl := x.toNat_lt
      have wk0 : (0 : Int) ≤ (k : Int) := by omega
      have wk1 : (k : Int) < (n : Int) := by omega
      have wk2 : ((k : Int)).toNat = k := by omega
      have q0 : (0 : Int) ≤ (x.toNat : Int) / 16 := by omega
      have q1 : (x.toNat : Int) / 16 < 16 := by omega
      have q3 : (0 : Int) ≤ (x.toNat : Int) % 16 := by omega
      have q4 : (x.toNat : Int) % 16 < 16 := by omega
      have q2 := u8_and15 (x := (x.toNat : Int)) (by omega) (by omega)
      have hlen : (Lib.byteCells (hexL (l.take k))).length ≤ 2000 := by rw [Lib.byteCells_length, hexL_len, List.length_take]; omega
      go_wp2_with fail
      simp only [hexl_div, hexl_divN]
      refine (WriteByte_any _ _ _ _ _ hbd (by omega) hsr).mono ?_
      rintro e w2 ⟨rfl, hb2, hk2⟩
      have hkp2 := hkp.trans hk2
      have hs2 := hk2.size
      go_wp2_with fail
      simp only [hexl_mod, hexl_modN]
      refine (WriteByte_any _ _ _ _ _ (.inr hb2) (by rw [List.length_append]; simp; omega) (by omega)).mono ?_
      rintro e w3 ⟨rfl, hb3, hk3⟩
      have hs3 := hk3.size
      go_wp2_with fail
      refine ⟨⟨k + 1, by omega, by go_num, ?_, hkp2.trans hk3, by omega⟩, by simp [intOf]; omega⟩
      rw [HT.out, Lib.byteCells_append]
      refine .inr ?_
      rw [List.append_assoc] at hb3
      exact hb3
    · have hkn : k = n := by omega
      have d1 : decide ((k : Int) < (n : Int)) = false := by simp; omega
      rw [List.take_of_length_le (by rw [HN.out]; omega)] at hbd
      go_wp2_with fail
      refine (BString_any _ _ _ _ hbd hsr).mono ?_
      rintro e w2 ⟨rfl, hk2⟩
      have hkp2 := hkp.trans hk2
      go_wp2_with fail
      go_ret
      exact ⟨rfl, hkp2⟩
end Go.Proofs.YtieobkgdkiahbaaDoor
set_option linter.unusedSimpArgs false
set_option linter.unusedVariables false
set_option maxRecDepth 100000
namespace Go.Proofs.YtieobkgdkiahbaaDoor
open Go Go.RowKit Go.Adm Go.Shelf

set_option maxHeartbeats 3200000 in
theorem refhex_any (w : World) (B : Nat) (A : Option Addr) (n c : Nat) (l : List UInt8) (hl : Rd w B 1 A n (l.map bv)) (hn2 : n ≤ 1000) (hB : B ≤ w.heap.size) :
    Calls Tryd.prog 86 #[.slice A n c] w fun e w' => e = .returned (.string ⟨(hexL l).toArray⟩) ∧ Below w.heap.size w w' := by
  have hn : l.length = n := by have := hl.len; simpa using this
  have HN := Lib.hid hn
  have HL := Lib.hid hl
  clear hl hn
  go_enter Tryd.func86, Tryd.ntmps86
  go_wp2
  go_loopw [4, 5] (fun v i wr => ∃ (k : Nat) (A' : Option Addr) (c' : Nat), k ≤ n ∧ i = .int .i64 k ∧ v = .slice A' (2 * k) c' ∧ Go.Adm.Own wr w.heap.size 5 1 A' (2 * k) c' ((hexL (l.take k)).map bv) ∧ Below w.heap.size w wr ∧ w.heap.size ≤ wr.heap.size) (fun _ i _ => n - (intOf i).toNat)
  case atStart => exact ⟨0, none, 0, by omega, rfl, rfl, Go.Adm.Own.nil _ _ _ _, Below.refl _ _, Nat.le_refl _⟩
  case round =>
    obtain ⟨k, A', c', hk, rfl, rfl, hown, hkp, hsr⟩ := hrel
    by_cases hlt : k < n
    · have hkl : k < l.length := by rw [HN.out]; exact hlt
      have d1 : decide ((k : Int) < (n : Int)) = true := by simp; omega
      have hrd : Rd wr B 1 A n (l.map bv) := HL.out.keep fun p hp => hkp.cell (by omega)
      obtain ⟨ad, u, rfl, _, hu, hc⟩ := Rd.cell hrd hlt
      have e1 : u = bv l[k] := by rw [List.getElem?_map, List.getElem?_eq_getElem hkl] at hu; exact (Option.some.inj hu).symm
      subst e1
      have HT : Hid (hexL (l.take (k + 1)) = hexL (l.take k) ++ [hexl (l[k] >>> 4), hexl (l[k] &&& 15)]) := Lib.hid (by rw [List.take_succ_eq_append_getElem hkl, hexL_snoc])
      clear hrd hu
      generalize l[k] = x at *
      have hc2 : wr.cell? (ad.add k) = some (.int .u8 (x.toNat : Int)) := hc
      clear hc
      have hbl := x.toNat_lt
      have wk0 : (0 : Int) ≤ (k : Int) := by omega
      have wk1 : (k : Int) < (n : Int) := by omega
      have wk2 : ((k : Int)).toNat = k := by omega
      have q0 : (0 : Int) ≤ (x.toNat : Int) / 16 := by omega
      have q1 : (x.toNat : Int) / 16 < 16 := by omega
      have q3 : (0 : Int) ≤ (x.toNat : Int) % 16 := by omega
      have q4 : (x.toNat : Int) % 16 < 16 := by omega
      have q2 := u8_and15 (x := (x.toNat : Int)) (by omega) (by omega)
      go_wp2
      go_region_law (refine st_app _ el_b8 rfl _ _ rfl w.heap.size _ _ _ _ rfl (hown.alloc _).drew (wr.heap.size + 1) _ 2 2 _ rfl (Rd.lit wr _ _ 2 rfl).drew (by intro u hu; simp at hu; rcases hu with rfl | rfl <;> rfl) (by omega) (by simp; omega) ?_; intro A3 c3 w3 hown3 hbel3 _)
      all_goals
        simp only [hexl_div, hexl_mod, hexl_divN, hexl_modN] at hown3
        go_wp2
        have hs3 := hbel3.size
        refine ⟨⟨k + 1, A3, c3, by omega, by go_num, rfl, ?_, hkp.trans (((Below.refl _ _).alloc (by omega) _).drew.trans hbel3), by simp at hs3; omega⟩, by simp [intOf]; omega⟩
        rw [HT.out, List.map_append]
        exact hown3
    · have hkn : k = n := by omega
      have d1 : decide ((k : Int) < (n : Int)) = false := by simp; omega
      have ht := Lib.hid (List.take_of_length_le (l := l) (i := k) (by rw [HN.out]; omega))
      have hconv := run_conv (P := Tryd.prog) wr 54 9 5 el_b8.ht Tryd.underlying5 Tryd.underlying9 (c := c') (hown.rd)
      clear hkn
      go_wp2
      go_ret
      exact ⟨ret_str (by rw [ht.out]), hkp⟩
set_option maxHeartbeats 3200000 in
theorem Format_any (w : World) (d : List UInt8) (hd : d.length = 32) :
    Calls Tryd.prog 60 #[.agg (d.map bv).toArray] w fun e w' => e = .returned (.string ⟨(fmtL d).toArray⟩) ∧ Below w.heap.size w w' := by
  have hR : All w [.kept w w.heap.size] := ⟨⟨Below.refl _ _, Nat.le_refl _⟩, trivial⟩
  have HD := Lib.hid hd
  clear hd
  go_enter Tryd.func60, Tryd.ntmps60
  go_upto_region 1 with (fail)
  refine wp_gen (hR.new (l := d.map bv) _ 58 rfl rfl) ?_
  intro w1 hR1
  have hrd : Rd w1 w1.heap.size 1 (some ⟨w.heap.size, 0, none⟩) 32 (d.map bv) := by
    have h1 := Cells.rd (hR1.at_ 0 rfl : Cells w1 w.heap.size _ (d.map bv)) (o := 0) (n := 32) (by rw [List.length_map, HD.out]; omega)
    rw [List.drop_zero, List.take_of_length_le (by rw [List.length_map, HD.out]; omega)] at h1
    exact h1.mono (Cells.lt (hR1.at_ 0 rfl))
  have hcx := hex_any w1 w1.heap.size (some ⟨w.heap.size, 0, none⟩) 32 32 d hrd (by decide) (Nat.le_refl _)
  have hsz : (⟨(hexL d).toArray⟩ : ByteArray).size = 64 := by
    show (hexL d).toArray.size = 64
    rw [List.size_toArray, hexL_len, HD.out]
  have hcat : Hid (prefL ++ (⟨(hexL d).toArray⟩ : ByteArray).data.toList = fmtL d) := Lib.hid rfl
  clear hrd
  obtain ⟨s, hs⟩ : ∃ s : ByteArray, ⟨(hexL d).toArray⟩ = s := ⟨_, rfl⟩
  rw [hs] at hcx hsz hcat
  clear hs
  go_wp2_with (go_at_call 85; refine hcx.mono ?_; clear hcx; rintro e w2 ⟨rfl, hb2⟩; have hR2 := hR1.call hb2)
  go_ret
  exact ⟨ret_str hcat.out, (hR2.at_ 1 rfl).1⟩
set_option maxHeartbeats 3200000 in
theorem refFormat_any (w : World) (d : List UInt8) (hd : d.length = 32) :
    Calls Tryd.prog 61 #[.agg (d.map bv).toArray] w fun e w' => e = .returned (.string ⟨(fmtL d).toArray⟩) ∧ Below w.heap.size w w' := by
  have hR : All w [.kept w w.heap.size] := ⟨⟨Below.refl _ _, Nat.le_refl _⟩, trivial⟩
  have HD := Lib.hid hd
  clear hd
  have hR1 : All (w.alloc (.cells (d.map bv).toArray 58)) [.own (w.heap.size + 1) 5 1 none 0 0 ((d.take 0).map bv), .cells w.heap.size 58 (d.map bv), .kept w w.heap.size] := ⟨Go.Adm.Own.nil _ _ _ _, hR.new (l := d.map bv) _ _ rfl rfl⟩
  have hs1 : w.heap.size + 1 ≤ (w.alloc (.cells (d.map bv).toArray 58)).heap.size := by simp
  clear hR
  go_enter Tryd.func61, Tryd.ntmps61
  go_upto_region 1 with (fail)
  refine wp_genP (Pr := fun W => All W [.own (w.heap.size + 1) 5 1 none 0 0 ((d.take 0).map bv), .cells w.heap.size 58 (d.map bv), .kept w w.heap.size] ∧ w.heap.size + 1 ≤ W.heap.size) ⟨hR1, hs1⟩ ?_
  clear hR1 hs1
  rintro W1 ⟨hI0, hs0⟩
  go_wp2
  go_loopw [3, 4] (fun v i wr => ∃ (k : Nat) (A' : Option Addr) (c' : Nat), k ≤ 32 ∧ i = .int .i64 k ∧ v = .slice A' k c' ∧ w.heap.size + 1 ≤ wr.heap.size ∧ All wr [.own (w.heap.size + 1) 5 1 A' k c' ((d.take k).map bv), .cells w.heap.size 58 (d.map bv), .kept w w.heap.size]) (fun _ i _ => 32 - (intOf i).toNat)
  case atStart => exact ⟨0, none, 0, by omega, rfl, rfl, hs0, hI0⟩
  case round =>
    obtain ⟨k, A', c', hk, rfl, rfl, hsr, hI⟩ := hrel
    clear hI0 hs0
    by_cases hlt : k < 32
    · have hkl : k < d.length := by rw [HD.out]; exact hlt
      have d1 : decide ((k : Int) < 32) = true := by simp; omega
      have c0 : wr.cell? ⟨w.heap.size, k, none⟩ = some (.int .u8 (d[k].toNat : Int)) := by
        have := Cells.cell (hI.at_ 1 rfl) (i := k) (by simp [hkl])
        rw [List.getElem_map] at this
        exact this
      have HT : Hid (d.take (k + 1) = d.take k ++ [d[k]]) := Lib.hid (List.take_succ_eq_append_getElem hkl)
      generalize d[k] = x at *
      have wk0 : (0 : Int) ≤ (k : Int) := by omega
      have wk1 : (k : Int) < 32 := by omega
      have wk2 : ((k : Int)).toNat = k := by omega
      go_wp2_with (first
        | (at_builtin; refine wl_app_at el_b8 (hI.alloc _) 0 rfl (.tmp 9) (.tmp 13) rfl (w.heap.size + 1) _ _ _ _ rfl rfl (wr.heap.size + 1) _ 1 1 [bv x] rfl (Rd.lit wr _ _ 1 rfl) (bv_one [x]) (by omega) (by simp; omega) (by intro g hg h; simp [Apart, Res.apart, Low.els] <;> omega) ?_; intro A7 c7 w7 hI7 hs7))
      refine ⟨⟨k + 1, A7, c7, by omega, by go_num, rfl, by simp at hs7; omega, ?_⟩, by simp [intOf]; omega⟩
      rw [HT.out, List.map_append]
      exact hI7
    · obtain rfl : k = 32 := by omega
      have d1 : decide (((32 : Nat) : Int) < 32) = false := by decide
      rw [List.take_of_length_le (by rw [HD.out]; omega)] at hI
      have hcx := refhex_any wr wr.heap.size A' 32 c' d (hI.at_ 0 rfl : Go.Adm.Own _ _ _ _ _ _ _ _).rd (by decide) (Nat.le_refl _)
      have hsz : (⟨(hexL d).toArray⟩ : ByteArray).size = 64 := by
        show (hexL d).toArray.size = 64
        rw [List.size_toArray, hexL_len, HD.out]
      have hcat : Hid (prefL ++ (⟨(hexL d).toArray⟩ : ByteArray).data.toList = fmtL d) := Lib.hid rfl
      obtain ⟨s, hs⟩ : ∃ s : ByteArray, ⟨(hexL d).toArray⟩ = s := ⟨_, rfl⟩
      rw [hs] at hcx hsz hcat
      clear hs
      go_wp2_with (go_at_call 86; refine hcx.mono ?_; clear hcx; rintro e w2 ⟨rfl, hb2⟩; have hR2 := hI.call hb2)
      go_ret
      exact ⟨ret_str hcat.out, (hR2.at_ 2 rfl).1⟩
end Go.Proofs.YtieobkgdkiahbaaDoor
set_option linter.unusedSimpArgs false
set_option linter.unusedVariables false
set_option maxRecDepth 100000
namespace Go.Adm
open Go Go.RowKit
theorem Strs.grown {w w' : World} {A : Option Addr} {n : Nat} {ss : List ByteArray} (hg : w.grownBy w' none) (h : Strs w w.heap.size A n ss) : Strs w' w'.heap.size A n ss :=
  (h.keep fun p hp => World.cell?_of_block (w := w) (hg.block _ hp (by simp))).mono hg.size
def RowAt (w : World) (B : Nat) (v : Value) (ss : List ByteArray) : Prop := ∃ ad, v = .slice (some ad) ss.length ss.length ∧ ss.length ≤ 1000 ∧ Strs w B (some ad) ss.length ss
theorem RowAt.st {B0 n c : Nat} {ad : Addr} {ss : List ByteArray} {F : Nat → Prop} (hF : ad.block < B0 ∨ F ad.block) : St B0 F (fun w => RowAt w w.heap.size (.slice (some ad) n c) ss) := fun w w' hs hb h => by
  obtain ⟨ad', e, h1, h2⟩ := h
  injection e with e1 e2 e3
  injection e1 with e1
  subst e1
  exact ⟨ad, by rw [e2, e3], h1, ⟨(Rd.st (by intro ad' h; injection h with h; subst h; exact hF)) w w' hs hb h2.rd, h2.small⟩⟩
def VF.strs (base : Nat) (out : Value) (ss : List ByteArray) : VF := .gen (fun W v => ∃ ad, v = .slice (some ad) ss.length ss.length ∧ Strs W W.heap.size (some ad) ss.length ss ∧ base ≤ ad.block ∧ ad.block < W.heap.size ∧ out.ownBlock ≠ some ad.block)
  fun _ _ _ hg ⟨ad, h1, h2, h3, h4, h5⟩ => ⟨ad, h1, h2.grown hg, h3, Nat.lt_of_lt_of_le h4 hg.size, h5⟩
def VF.line (base : Nat) (out : Value) (ss : List ByteArray) : VF := .gen (fun W v => ∃ A c ad, v = .slice A 1 c ∧ Rd W W.heap.size 1 A 1 [.slice (some ad) ss.length ss.length] ∧ Strs W W.heap.size (some ad) ss.length ss ∧ base ≤ ad.block ∧ ad.block < W.heap.size ∧ out.ownBlock ≠ some ad.block)
  fun _ _ _ hg ⟨A, c, ad, h1, h0, h2, h3, h4, h5⟩ => ⟨A, c, ad, h1, h0.grown hg, h2.grown hg, h3, Nat.lt_of_lt_of_le h4 hg.size, h5⟩
theorem Lines.of {w : World} {B n : Nat} {A : Option Addr} {vs : List Value} {ls : List (List ByteArray)} (h : Rd w B 1 A n vs) (ha : All2 (RowAt w B) vs ls) (hn : n ≤ 140737488355328) : Lines w B A n ls := by
  have hl := h.len
  have hl2 := ha.len
  refine ⟨by omega, hn, vs, h, fun k hk => ?_⟩
  obtain ⟨v, hv, ad, rfl, h1, h2⟩ := ha.at_ hk
  exact ⟨some ad, ls[k].length, hv, Nat.le_refl _, by omega, h2⟩
theorem Nest.apart_new {w : World} {base size n c : Nat} {e : TypeId} {A : Option Addr} {xs : List Value} {B0 : Nat} {F : Nat → Prop} {In : World → Prop} (h : Nest w base e size A n c xs B0 F In) (hB : B0 ≤ w.heap.size) {g : Nat} (hg : g = w.heap.size) :
    Res.apart (some g) (.nest base e size A n c xs B0 F In) := fun g' h' => by
  injection h' with h'
  subst h'
  refine ⟨by omega, .inr ⟨fun e => ?_, fun f => ?_⟩⟩
  · have := (h.own.lt e).2; omega
  · have := (h.fr _ f).2; omega
def entLn (tag : ByteArray) (x : E) : List ByteArray := [tag, x.p, ⟨(fmtL x.d).toArray⟩]
def entLs (tag : ByteArray) (l : List E) : List (List ByteArray) := l.map (entLn tag)
theorem fmt_size {d : List UInt8} (h : d.length = 32) : (⟨(fmtL d).toArray⟩ : ByteArray).size = 71 := by
  show (fmtL d).toArray.size = 71
  rw [List.size_toArray, fmtL, List.length_append, hexL_len, h]; rfl
end Go.Adm
namespace Go.Proofs.YtieobkgdkiahbaaDoor
open Go Go.RowKit Go.Adm

theorem el_line : ElemOf Tryd.prog 44 80 (.slice none 0 0) 1 24 := ElemOf.mk' Tryd.underlying44 (by kernel_rfl) rfl (by decide) (by decide)
/-- what was returned: the lines -/
def LinesPost (w : World) (n : Nat) (ls : List (List ByteArray)) (e : Ending) (w' : World) : Prop := ∃ A c, e = .returned (.slice A n c) ∧ n ≤ c ∧ Below w.heap.size w w' ∧ Lines w' w'.heap.size A n ls

set_option maxHeartbeats 3200000 in
theorem Lines_any (tag : ByteArray) (ht : tag.size ≤ 140737488355328) (w : World) (B : Nat) (A : Option Addr) (n c : Nat) (l : List E) (hl : Els w B 33 A n (l.map entC)) (h32 : ∀ e ∈ l, E32 e) (hn : l.length = n) (hn2 : n ≤ 1000000) (hB : B ≤ w.heap.size) :
    Calls Tryd.prog 28 #[.string tag, .slice A n c] w (LinesPost w n (entLs tag l)) := by
  have hR : All w [.low (.els B 33 A n (l.map entC)), .kept w w.heap.size] := ⟨⟨hl, hB⟩, ⟨Below.refl _ _, Nat.le_refl _⟩, trivial⟩
  have HN := Lib.hid hn
  have H32 := Lib.hid h32
  clear hl h32 hn
  have hzr := zero_ent
  go_enter Tryd.func28, Tryd.ntmps28
  go_upto_region 3 with (fail)
  have hI0 : All w [.nest w.heap.size 80 1 none 0 0 [] w.heap.size (fun _ => False) (fun w => All2 (RowAt w w.heap.size) [] ((entLs tag l).take 0)), .low (.els B 33 A n (l.map entC)), .kept w w.heap.size] := ⟨Nest.start (fun w => .nil), hR⟩
  clear hR
  go_wp2
  go_loopw [5, 10] (fun v i wr => ∃ (k : Nat) (A' : Option Addr) (c' : Nat) (vs : List Value) (F : Nat → Prop), k ≤ n ∧ i = .int .i64 k ∧ v = .slice A' k c' ∧ w.heap.size ≤ wr.heap.size ∧ All wr [.nest w.heap.size 80 1 A' k c' vs w.heap.size F (fun w => All2 (RowAt w w.heap.size) vs ((entLs tag l).take k)), .low (.els B 33 A n (l.map entC)), .kept w w.heap.size]) (fun _ i _ => n - (intOf i).toNat)
  case atStart => exact ⟨0, none, 0, [], _, by omega, rfl, rfl, Nat.le_refl _, hI0⟩
  case round =>
    obtain ⟨k, A', c', vs, F, hk, rfl, rfl, hsr, hI⟩ := hrel
    clear hI0
    by_cases hlt : k < n
    · have hkl : k < l.length := by rw [HN.out]; exact hlt
      obtain ⟨ad, rfl, hadB, hc⟩ := Els.elem (hI.at_ 1 rfl : Els wr B 33 A n (l.map entC) ∧ B ≤ wr.heap.size).1 hkl
      have HC := Lib.hid hc
      have HT : Hid ((entLs tag l).take (k + 1) = (entLs tag l).take k ++ [entLn tag l[k]]) := Lib.hid (by rw [entLs, ← List.map_take, List.take_succ_eq_append_getElem hkl, List.map_append, List.map_take]; rfl)
      have hx := Lib.hid (H32.out _ (List.getElem_mem hkl))
      clear hc
      generalize l[k] = x at *
      have hsz : w.heap.size ≤ wr.heap.size := hI.size_kept 2 rfl
      have d1 : decide ((k : Int) < (n : Int)) = true := by simp; omega
      have wk0 : (0 : Int) ≤ (k : Int) := by omega
      have wk1 : (k : Int) < (n : Int) := by omega
      have wk2 : ((k : Int)).toNat = k := by omega
      obtain ⟨gx, hgx⟩ : ∃ gx, gx = wr.heap.size := ⟨_, rfl⟩
      have hap : Apart (some gx) [.nest w.heap.size 80 1 A' k c' vs w.heap.size F (fun w => All2 (RowAt w w.heap.size) vs ((entLs tag l).take k)), .low (.els B 33 (some ad) n (l.map entC)), .kept w w.heap.size] := ⟨Nest.apart_new (hI.at_ 0 rfl) hsz hgx, fun g hg => by injection hg with hg; subst hg; exact hgx ▸ (hI.at_ 1 rfl : _ ∧ B ≤ wr.heap.size).2, fun g hg => by injection hg with hg; subst hg; omega, trivial⟩
      go_upto_region 5 with (first
        | (refine wl_load_any rfl 72 (.tmp 12) rfl (ad.add (k * 33)) rfl (entC x) _ HC.out Tryd.underlying72 rfl (by rw [entC_len hx.out]; kernel_rfl) ?_)
        | (refine wl_store_at (hI.new (l := entZ) _ 72 hgx rfl) 0 rfl 72 (.tmp 7) (.tmp 13) rfl gx _ _ (entC x) rfl (by rw [hgx]; rfl) rfl (by rw [entC_len hx.out]; rfl) (by rw [entC_len hx.out]; kernel_rfl) (entC_one x) hap ?_; intro W2 hW2 hs2; clear hs2; simp only [List.set_cons_zero] at hW2))
      simp only [← hgx]
      have hgB : B ≤ gx := by have := (hI.at_ 1 rfl : _ ∧ B ≤ wr.heap.size).2; omega
      have hgw : w.heap.size ≤ gx := by omega
      clear hgx hI hap
      refine wp_region_hops 9 [14, 15, 16, 17, 18, 19, 20, 21, 22] [.cells gx 72 (entC x), .nest w.heap.size 80 1 A' k c' vs w.heap.size F (fun w => All2 (RowAt w w.heap.size) vs ((entLs tag l).take k)), .low (.els B 33 (some ad) n (l.map entC)), .kept w w.heap.size]
        [.eq (.slice A' k c'), .eq (.string tag), .eq (.pointer (some ⟨gx, 0, none⟩)), .eq (.string x.p), .eq (.pointer (some ⟨gx, 1, none⟩)), .eq (.agg (x.d.map bv).toArray), .eq (.string ⟨(fmtL x.d).toArray⟩), .strs w.heap.size (.slice A' k c') (entLn tag x), .line w.heap.size (.slice A' k c') (entLn tag x)]
        (by kernel_rfl) (by kernel_rfl) hW2 rfl ?hops ?fin
      case hops =>
        refine ⟨?_, ?_, ?_, ?_, ?_, ?_, ?_, ?_, ?_, trivial⟩
        · intro a W hW hb hd K hK
          have b5 := hb 5 rfl
          go_simp
          exact hK _ _ (World.grownBy.refl _ _) rfl
        · intro a W hW hb hd K hK
          have b0 := hb 0 rfl
          go_simp
          exact hK _ _ (World.grownBy.refl _ _) rfl
        · intro a W hW hb hd K hK
          have b7 := hb 7 rfl
          go_simp
          exact hK _ _ (World.grownBy.refl _ _) rfl
        · intro a W hW hb hd K hK
          have b16 : a.tmps[16]?.getD undef = _ := hd ⟨2, .data⟩ (by simp) rfl
          have q1 : W.cell? ⟨gx, 0, none⟩ = some (.string x.p) := Cells.cell (hW.at_ 0 rfl) (i := 0) (by simp [entC])
          go_simp
          exact hK _ _ (World.grownBy.refl _ _) rfl
        · intro a W hW hb hd K hK
          have b7 := hb 7 rfl
          go_simp
          exact hK _ _ (World.grownBy.refl _ _) rfl
        · intro a W hW hb hd K hK
          have b18 : a.tmps[18]?.getD undef = _ := hd ⟨4, .data⟩ (by simp) rfl
          refine wp_load_any 58 (.tmp 18) rfl ⟨gx, 1, none⟩ (show a.eval (.tmp 18) = _ from by simp only [Act.eval, Array.getD_eq_getD_getElem?]; exact b18) (x.d.map bv) _ (Cells.sub (hW.at_ 0 rfl) 1 (ent_sub x)) Tryd.underlying58 rfl (by rw [List.length_map, hx.out.1]; kernel_rfl) ?_
          exact hK _ _ (World.grownBy.refl _ _) rfl
        · intro a W hW hb hd K hK
          have b19 : a.tmps[19]?.getD undef = _ := hd ⟨5, .data⟩ (by simp) rfl
          go_simp
          refine (Format_any W x.d hx.out.1).mono ?_
          rintro e w' ⟨rfl, hb'⟩
          exact hK _ _ (grown_of_below hb') rfl
        · intro a W hW hb hd K hK
          have b15 : a.tmps[15]?.getD undef = _ := hd ⟨1, .data⟩ (by simp) rfl
          have b17 : a.tmps[17]?.getD undef = _ := hd ⟨3, .data⟩ (by simp) rfl
          have b20 : a.tmps[20]?.getD undef = _ := hd ⟨6, .data⟩ (by simp) rfl
          go_simp
          refine hK _ _ (grown_alloc _ _) ⟨⟨W.heap.size, 0, none⟩, rfl, ⟨(Rd.lit W #[.string tag, .string x.p, .string ⟨(fmtL x.d).toArray⟩] _ 3 rfl).mono (by simp), ?_⟩, (hW.at_ 3 rfl : _ ∧ w.heap.size ≤ W.heap.size).2, by simp, fun e => ?_⟩
          · intro s hs
            simp only [entLn, List.mem_cons, List.mem_nil_iff, or_false] at hs
            rcases hs with rfl | rfl | rfl
            · exact ht
            · exact hx.out.2
            · rw [fmt_size hx.out.1]; decide
          · have := ((hW.at_ 1 rfl : Nest W w.heap.size 80 1 A' k c' vs w.heap.size F _).own.lt e).2
            exact absurd this (Nat.lt_irrefl _)
        · intro a W hW hb hd K hK
          obtain ⟨ad3, b21x, hs3, h31, h32, h33⟩ := (hd ⟨7, .data⟩ (by simp) rfl : VF.ok (.strs w.heap.size (.slice A' k c') (entLn tag x)) (a.tmps[21]?.getD undef) W)
          replace b21x : a.tmps[21]?.getD undef = .slice (some ad3) 3 3 := b21x
          go_simp
          exact hK _ _ (grown_alloc _ _) ⟨_, _, ad3, rfl, (Rd.lit W #[.slice (some ad3) 3 3] _ 1 rfl).mono (by simp), hs3.grown (grown_alloc _ _), h31, by simp; omega, h33⟩
      case fin =>
        intro vv V hV hv
        have e0 : vv 0 = _ := hv 0 (by decide)
        obtain ⟨A9, c9, ad3, e9, hRd, hs3, h31, h34, h33⟩ := (hv 8 (by decide) : VF.ok (.line w.heap.size (.slice A' k c') (entLn tag x)) (vv 8) V)
        clear hv
        simp only [putAll, List.drop_succ_cons, List.drop_zero, e0, e9, Act.put, List.setIfInBounds_toArray, List.set_cons_succ, List.set_cons_zero]
        clear e0 e9
        have hsV : w.heap.size ≤ V.heap.size := (hV.at_ 3 rfl : _ ∧ w.heap.size ≤ V.heap.size).2
        refine wl_app_nest el_line hV.2 0 rfl (.tmp 14) (.tmp 22) rfl w.heap.size A' k c' vs w.heap.size F _ rfl rfl V.heap.size _ 1 _ [.slice (some ad3) 3 3] rfl hRd (by intro u hu; simp only [List.mem_singleton] at hu; subst hu; rfl) (by omega) hsV (Nat.le_refl _) (fun b => b = ad3.block) (fun W => RowAt W W.heap.size (.slice (some ad3) 3 3) (entLn tag x)) ⟨ad3, rfl, by simp [entLn], hs3⟩ (RowAt.st (Or.inr rfl)) (fun b hb => by subst hb; exact ⟨h31, h34, h33⟩) (by intro g hg _; simp [Apart, Res.apart, Low.els] <;> omega) ?_
        intro A7 c7 w7 hI7 hs7
        go_wp2
        refine ⟨⟨k + 1, A7, c7, vs ++ [.slice (some ad3) 3 3], (fun b => F b ∨ b = ad3.block), by omega, by go_num, rfl, by first | omega | (simp at hs7; omega), ?_⟩, by simp [intOf]; omega⟩
        refine ⟨Nest.as (hI7.at_ 0 rfl) (fun W' => ?_), hI7.2⟩
        rw [HT.out]
        exact All2.snoc.symm
    · have hkn : Hid (k = n) := Lib.hid (by omega)
      have d1 : decide ((k : Int) < (n : Int)) = false := by simp; omega
      have hkp := (hI.at_ 2 rfl : Res.ok wr (.kept w w.heap.size)).1
      have hN := (hI.at_ 0 rfl : Nest wr w.heap.size 80 1 A' k c' vs w.heap.size F _)
      have hkc := Lib.hid hN.own.cap
      have hfin : Hid (Lines wr wr.heap.size A' n (entLs tag l)) := Lib.hid (by
        have h1 := hN.inn
        rw [List.take_of_length_le (by rw [entLs, List.length_map]; have := HN.out; have := hkn.out; omega)] at h1
        have h2 := Lines.of hN.own.rd h1 (by omega)
        rw [hkn.out] at h2
        exact h2)
      clear hI hN
      go_wp2
      go_ret
      exact ⟨A', c', by rw [hkn.out]; rfl, by have := hkc.out.1; have := hkn.out; omega, hkp, hfin.out⟩

set_option maxHeartbeats 3200000 in
theorem refLines_any (tag : ByteArray) (ht : tag.size ≤ 140737488355328) (w : World) (B : Nat) (A : Option Addr) (n c : Nat) (l : List E) (hl : Els w B 33 A n (l.map entC)) (h32 : ∀ e ∈ l, E32 e) (hn : l.length = n) (hn2 : n ≤ 1000000) (hB : B ≤ w.heap.size) :
    Calls Tryd.prog 29 #[.string tag, .slice A n c] w (LinesPost w n (entLs tag l)) := by
  have hR : All w [.low (.els B 33 A n (l.map entC)), .kept w w.heap.size] := ⟨⟨hl, hB⟩, ⟨Below.refl _ _, Nat.le_refl _⟩, trivial⟩
  have HN := Lib.hid hn
  have H32 := Lib.hid h32
  clear hl h32 hn
  have hzr := zero_ent
  go_enter Tryd.func29, Tryd.ntmps29
  go_upto_region 3 with (fail)
  have hI0 : All w [.nest w.heap.size 80 1 none 0 0 [] w.heap.size (fun _ => False) (fun w => All2 (RowAt w w.heap.size) [] ((entLs tag l).take 0)), .low (.els B 33 A n (l.map entC)), .kept w w.heap.size] := ⟨Nest.start (fun w => .nil), hR⟩
  clear hR
  go_wp2
  go_loopw [5, 6] (fun v i wr => ∃ (k : Nat) (A' : Option Addr) (c' : Nat) (vs : List Value) (F : Nat → Prop), k ≤ n ∧ i = .int .i64 k ∧ v = .slice A' k c' ∧ w.heap.size ≤ wr.heap.size ∧ All wr [.nest w.heap.size 80 1 A' k c' vs w.heap.size F (fun w => All2 (RowAt w w.heap.size) vs ((entLs tag l).take k)), .low (.els B 33 A n (l.map entC)), .kept w w.heap.size]) (fun _ i _ => n - (intOf i).toNat)
  case atStart => exact ⟨0, none, 0, [], _, by omega, rfl, rfl, Nat.le_refl _, hI0⟩
  case round =>
    obtain ⟨k, A', c', vs, F, hk, rfl, rfl, hsr, hI⟩ := hrel
    clear hI0
    by_cases hlt : k < n
    · have hkl : k < l.length := by rw [HN.out]; exact hlt
      obtain ⟨ad, rfl, hadB, hc⟩ := Els.elem (hI.at_ 1 rfl : Els wr B 33 A n (l.map entC) ∧ B ≤ wr.heap.size).1 hkl
      have HC := Lib.hid hc
      have HT : Hid ((entLs tag l).take (k + 1) = (entLs tag l).take k ++ [entLn tag l[k]]) := Lib.hid (by rw [entLs, ← List.map_take, List.take_succ_eq_append_getElem hkl, List.map_append, List.map_take]; rfl)
      have HX : Hid (∀ W, All W [.nest w.heap.size 80 1 A' k c' vs w.heap.size F (fun w => All2 (RowAt w w.heap.size) vs ((entLs tag l).take k)), .low (.els B 33 (some ad) n (l.map entC)), .kept w w.heap.size] → ∀ q s, (entC l[k])[q]? = some s → W.cell? ((ad.add (k * 33)).add q) = some s) := Lib.hid (fun W hW => by
        obtain ⟨ad', e, _, hc⟩ := Els.elem (hW.at_ 1 rfl : Els W B 33 (some ad) n (l.map entC) ∧ B ≤ W.heap.size).1 hkl
        obtain rfl := Option.some.inj e
        exact hc)
      have hx := Lib.hid (H32.out _ (List.getElem_mem hkl))
      clear hc
      generalize l[k] = x at *
      have hsz : w.heap.size ≤ wr.heap.size := hI.size_kept 2 rfl
      have d1 : decide ((k : Int) < (n : Int)) = true := by simp; omega
      have wk0 : (0 : Int) ≤ (k : Int) := by omega
      have wk1 : (k : Int) < (n : Int) := by omega
      have wk2 : ((k : Int)).toNat = k := by omega
      go_upto_region 5 with (fail)
      refine wp_region_hops 15 [13, 14, 15, 16, 17, 18, 19, 20, 21, 22, 23, 24, 25, 26, 27] [.nest w.heap.size 80 1 A' k c' vs w.heap.size F (fun w => All2 (RowAt w w.heap.size) vs ((entLs tag l).take k)), .low (.els B 33 (some ad) n (l.map entC)), .kept w w.heap.size]
        [.eq (.slice A' k c'), .eq (.string tag), .eq (.slice (some ad) n c), .eq (.int .i64 k), .eq (.pointer (some (ad.add (k * 33)))), .eq (.pointer (some (ad.add (k * 33)))), .eq (.string x.p), .eq (.slice (some ad) n c), .eq (.int .i64 k), .eq (.pointer (some (ad.add (k * 33)))), .eq (.pointer (some ((ad.add (k * 33)).add 1))), .eq (.agg (x.d.map bv).toArray), .eq (.string ⟨(fmtL x.d).toArray⟩), .strs w.heap.size (.slice A' k c') (entLn tag x), .line w.heap.size (.slice A' k c') (entLn tag x)]
        (by kernel_rfl) (by kernel_rfl) hI rfl ?hops ?fin
      case hops =>
        refine ⟨?_, ?_, ?_, ?_, ?_, ?_, ?_, ?_, ?_, ?_, ?_, ?_, ?_, ?_, ?_, trivial⟩
        · intro a W hW hb hd K hK
          have b5 := hb 5 rfl
          go_simp
          exact hK _ _ (World.grownBy.refl _ _) rfl
        · intro a W hW hb hd K hK
          have b0 := hb 0 rfl
          go_simp
          exact hK _ _ (World.grownBy.refl _ _) rfl
        · intro a W hW hb hd K hK
          have b1 := hb 1 rfl
          go_simp
          exact hK _ _ (World.grownBy.refl _ _) rfl
        · intro a W hW hb hd K hK
          have b6 := hb 6 rfl
          go_simp
          exact hK _ _ (World.grownBy.refl _ _) rfl
        · intro a W hW hb hd K hK
          have b15 : a.tmps[15]?.getD undef = _ := hd ⟨2, .data⟩ (by simp) rfl
          have b16 : a.tmps[16]?.getD undef = _ := hd ⟨3, .data⟩ (by simp) rfl
          go_simp
          exact hK _ _ (World.grownBy.refl _ _) rfl
        · intro a W hW hb hd K hK
          have b17 : a.tmps[17]?.getD undef = _ := hd ⟨4, .data⟩ (by simp) rfl
          go_simp
          exact hK _ _ (World.grownBy.refl _ _) (by first | rfl | (rw [add_zero]; rfl) | (simp [add_zero]; rfl))
        · intro a W hW hb hd K hK
          have b18 : a.tmps[18]?.getD undef = _ := hd ⟨5, .data⟩ (by simp) rfl
          have q1 : W.cell? (ad.add (k * 33)) = some (.string x.p) := by have := HX.out W hW 0 (sv x.p) rfl; rwa [add_zero] at this
          go_simp
          exact hK _ _ (World.grownBy.refl _ _) rfl
        · intro a W hW hb hd K hK
          have b1 := hb 1 rfl
          go_simp
          exact hK _ _ (World.grownBy.refl _ _) rfl
        · intro a W hW hb hd K hK
          have b6 := hb 6 rfl
          go_simp
          exact hK _ _ (World.grownBy.refl _ _) rfl
        · intro a W hW hb hd K hK
          have b20 : a.tmps[20]?.getD undef = _ := hd ⟨7, .data⟩ (by simp) rfl
          have b21 : a.tmps[21]?.getD undef = _ := hd ⟨8, .data⟩ (by simp) rfl
          go_simp
          exact hK _ _ (World.grownBy.refl _ _) rfl
        · intro a W hW hb hd K hK
          have b22 : a.tmps[22]?.getD undef = _ := hd ⟨9, .data⟩ (by simp) rfl
          go_simp
          exact hK _ _ (World.grownBy.refl _ _) (by first | rfl | (rw [add_zero]; rfl) | (simp [add_zero]; rfl))
        · intro a W hW hb hd K hK
          have b23 : a.tmps[23]?.getD undef = _ := hd ⟨10, .data⟩ (by simp) rfl
          refine wp_load_any 58 (.tmp 23) rfl ((ad.add (k * 33)).add 1) (show a.eval (.tmp 23) = _ from by simp only [Act.eval, Array.getD_eq_getD_getElem?]; exact b23) (x.d.map bv) _ (fun q s hs => by rw [add_add]; exact HX.out W hW _ s (ent_sub x q s hs)) Tryd.underlying58 rfl (by rw [List.length_map, hx.out.1]; kernel_rfl) ?_
          exact hK _ _ (World.grownBy.refl _ _) rfl
        · intro a W hW hb hd K hK
          have b24 : a.tmps[24]?.getD undef = _ := hd ⟨11, .data⟩ (by simp) rfl
          go_simp
          refine (refFormat_any W x.d hx.out.1).mono ?_
          rintro e w' ⟨rfl, hb'⟩
          exact hK _ _ (grown_of_below hb') rfl
        · intro a W hW hb hd K hK
          have b14 : a.tmps[14]?.getD undef = _ := hd ⟨1, .data⟩ (by simp) rfl
          have b19 : a.tmps[19]?.getD undef = _ := hd ⟨6, .data⟩ (by simp) rfl
          have b25 : a.tmps[25]?.getD undef = _ := hd ⟨12, .data⟩ (by simp) rfl
          go_simp
          refine hK _ _ (grown_alloc _ _) ⟨⟨W.heap.size, 0, none⟩, rfl, ⟨(Rd.lit W #[.string tag, .string x.p, .string ⟨(fmtL x.d).toArray⟩] _ 3 rfl).mono (by simp), ?_⟩, (hW.at_ 2 rfl : _ ∧ w.heap.size ≤ W.heap.size).2, by simp, fun e => ?_⟩
          · intro s hs
            simp only [entLn, List.mem_cons, List.mem_nil_iff, or_false] at hs
            rcases hs with rfl | rfl | rfl
            · exact ht
            · exact hx.out.2
            · rw [fmt_size hx.out.1]; decide
          · have := ((hW.at_ 0 rfl : Nest W w.heap.size 80 1 A' k c' vs w.heap.size F _).own.lt e).2
            exact absurd this (Nat.lt_irrefl _)
        · intro a W hW hb hd K hK
          obtain ⟨ad3, b26x, hs3, h31, h32, h33⟩ := (hd ⟨13, .data⟩ (by simp) rfl : VF.ok (.strs w.heap.size (.slice A' k c') (entLn tag x)) (a.tmps[26]?.getD undef) W)
          replace b26x : a.tmps[26]?.getD undef = .slice (some ad3) 3 3 := b26x
          go_simp
          exact hK _ _ (grown_alloc _ _) ⟨_, _, ad3, rfl, (Rd.lit W #[.slice (some ad3) 3 3] _ 1 rfl).mono (by simp), hs3.grown (grown_alloc _ _), h31, by simp; omega, h33⟩
      case fin =>
        intro vv V hV hv
        have e0 : vv 0 = _ := hv 0 (by decide)
        obtain ⟨A9, c9, ad3, e9, hRd, hs3, h31, h34, h33⟩ := (hv 14 (by decide) : VF.ok (.line w.heap.size (.slice A' k c') (entLn tag x)) (vv 14) V)
        clear hv
        simp only [putAll, List.drop_succ_cons, List.drop_zero, e0, e9, Act.put, List.setIfInBounds_toArray, List.set_cons_succ, List.set_cons_zero]
        clear e0 e9
        have hsV : w.heap.size ≤ V.heap.size := (hV.at_ 2 rfl : _ ∧ w.heap.size ≤ V.heap.size).2
        refine wl_app_nest el_line hV 0 rfl (.tmp 13) (.tmp 27) rfl w.heap.size A' k c' vs w.heap.size F _ rfl rfl V.heap.size _ 1 _ [.slice (some ad3) 3 3] rfl hRd (by intro u hu; simp only [List.mem_singleton] at hu; subst hu; rfl) (by omega) hsV (Nat.le_refl _) (fun b => b = ad3.block) (fun W => RowAt W W.heap.size (.slice (some ad3) 3 3) (entLn tag x)) ⟨ad3, rfl, by simp [entLn], hs3⟩ (RowAt.st (Or.inr rfl)) (fun b hb => by subst hb; exact ⟨h31, h34, h33⟩) (by intro g hg _; simp [Apart, Res.apart, Low.els] <;> omega) ?_
        intro A7 c7 w7 hI7 hs7
        go_wp2
        refine ⟨⟨k + 1, A7, c7, vs ++ [.slice (some ad3) 3 3], (fun b => F b ∨ b = ad3.block), by omega, by go_num, rfl, by first | omega | (simp at hs7; omega), ?_⟩, by simp [intOf]; omega⟩
        refine ⟨Nest.as (hI7.at_ 0 rfl) (fun W' => ?_), hI7.2⟩
        rw [HT.out]
        exact All2.snoc.symm
    · have hkn : Hid (k = n) := Lib.hid (by omega)
      have d1 : decide ((k : Int) < (n : Int)) = false := by simp; omega
      have hkp := (hI.at_ 2 rfl : Res.ok wr (.kept w w.heap.size)).1
      have hN := (hI.at_ 0 rfl : Nest wr w.heap.size 80 1 A' k c' vs w.heap.size F _)
      have hkc := Lib.hid hN.own.cap
      have hfin : Hid (Lines wr wr.heap.size A' n (entLs tag l)) := Lib.hid (by
        have h1 := hN.inn
        rw [List.take_of_length_le (by rw [entLs, List.length_map]; have := HN.out; have := hkn.out; omega)] at h1
        have h2 := Lines.of hN.own.rd h1 (by omega)
        rw [hkn.out] at h2
        exact h2)
      clear hI hN
      go_wp2
      go_ret
      exact ⟨A', c', by rw [hkn.out]; rfl, by have := hkc.out.1; have := hkn.out; omega, hkp, hfin.out⟩
end Go.Proofs.YtieobkgdkiahbaaDoor

/- The encoded form of a record: the reference. -/
import Derived.Test.YtjdinakdkdjocaaGreatDoorRec7
import Derived.Test.YtjdinakdkdjocaaGreatDoorRecJ
import Derived.Test.YtjdinakdkdjocaaGreatDoorLinF
import Derived.Test.YtjdinakdkdjocaaGreatDoorNumF
import Derived.Test.YtjdinakdkdjocaaGreatDoorDocA
set_option linter.unusedSimpArgs false
set_option linter.unusedVariables false
set_option maxRecDepth 100000
namespace Go.AdR
open Go Go.RowKit Go.Adm
theorem all2_one {R : Value → List ByteArray → Prop} {a : Value} {x : List ByteArray} : R a x ↔ All2 R [a] [x] := by
  constructor
  · intro h1
    exact .cons h1 .nil
  · intro h
    cases h with
    | cons h1 h => exact h1
theorem nest_one {V : World} {base : Nat} {t : TypeId} {A1 : Option Addr} {n1 c1 : Nat} {s1 : List ByteArray} (hb : base ≤ V.heap.size) (r1 : RowS V V.heap.size (.slice A1 n1 c1) s1)
    (f1 : ∀ ad, A1 = some ad → base ≤ ad.block ∧ ad.block < V.heap.size) :
    Nest (V.alloc (.cells #[.slice A1 n1 c1] t)) base t 1 (some ⟨V.heap.size, 0, none⟩) 1 1 [.slice A1 n1 c1] base (fun b => ∃ ad, A1 = some ad ∧ b = ad.block) (fun W => All2 (RowS W W.heap.size) [.slice A1 n1 c1] [s1]) := by
  have ho : Go.Adm.Own (V.alloc (.cells #[.slice A1 n1 c1] t)) base t 1 (some ⟨V.heap.size, 0, none⟩) 1 1 [.slice A1 n1 c1] := Go.Adm.Own.lit (size := 1) V #[.slice A1 n1 c1] 1 hb (by decide) rfl
  have hst := RowS.st (B0 := base) (n := n1) (c := c1) (A := A1) (ss := s1) (F := fun b => ∃ ad, A1 = some ad ∧ b = ad.block) (fun ad e => .inr ⟨ad, e, rfl⟩)
  refine (Nest.of ho (In := fun W => RowS W W.heap.size (.slice A1 n1 c1) s1) (r1.grown (grown_alloc _ _)) hst ?_).as fun W => all2_one
  intro b hb
  obtain ⟨ad, e, rfl⟩ := hb
  have := f1 ad e
  exact ⟨this.1, by simp; omega, by intro h; simp [Value.ownBlock] at h; omega⟩
theorem apartN {W w : World} {n c B gx : Nat} {t1 t2 : TypeId} {A0 : Option Addr} {vs cs : List Value} {F : Nat → Prop} {In : World → Prop} {x : Rec} {sc se sm sp : Sl} (h : Nest W (w.heap.size + 1) t1 1 A0 n c vs (w.heap.size + 1) F In) (hg : gx = W.heap.size) (hw : w.heap.size < W.heap.size) (hB : B ≤ W.heap.size) :
    Apart (some gx) [.nest (w.heap.size + 1) t1 1 A0 n c vs (w.heap.size + 1) F In, .cells w.heap.size t2 cs, .low (Go.AdR.Low.recd B x sc se sm sp), .kept w w.heap.size] := by
  refine ⟨Nest.apart_new h (by omega) hg, ?_, fun g e => ?_, fun g e => ?_, trivial⟩
  · simp [Res.apart]; omega
  all_goals (injection e with e; subst e; first | (show B ≤ gx; omega) | omega)
theorem rowF_row {W : World} {base : Nat} {ss : List ByteArray} {v : Value} (h : RowF base ss W v) : RowS W W.heap.size v ss := by
  obtain ⟨A, c, rfl, h1, h2⟩ := h
  exact h1
theorem rowF_fr {W : World} {base n c : Nat} {ss : List ByteArray} {A : Option Addr} (h : RowF base ss W (.slice A n c)) : ∀ ad, A = some ad → base ≤ ad.block ∧ ad.block < W.heap.size := by
  obtain ⟨A', c', e, h1, h2⟩ := h
  injection e with e1 e2 e3
  subst e1
  exact h2
end Go.AdR
namespace Go.Proofs.YtjdinakdkdjocaaGreatDoor
open Go Go.RowKit Go.Adm Go.AdR
set_option maxHeartbeats 12800000 in
theorem rrEncode_any (w : World) (B : Nat) (x : Rec) (sc se sm sp : Sl) (h : RecIn w B x sc se sm sp) (ho : RecOk x) (hB : B ≤ w.heap.size) (h0 : -9223372036854775808 ≤ x.t) (h1 : x.t ≤ 9223372036854775807) (m : Int) (hm : w.cell? ⟨0, 0, none⟩ = some (.int .i64 m)) :
    Calls Tryz.prog 5 #[.agg (recC x sc se sm sp).toArray] w (RecPost x w) := by
  have hgm : 0 < w.heap.size := World.block_lt_of_cell? w _ hm
  have hR : All w [.low (Go.AdR.Low.recd B x sc se sm sp), .kept w w.heap.size] := ⟨⟨h, hB⟩, ⟨Below.refl _ _, Nat.le_refl _⟩, trivial⟩
  have H0 := Lib.hid h0
  have H1 := Lib.hid h1
  have HO := Lib.hid ho
  have HNC : Hid (x.cmd.length = sc.n) := Lib.hid h.cmd.len
  have HNC2 : Hid (sc.n ≤ 1000000) := Lib.hid (by rw [← h.cmd.len]; exact ho.ncmd)
  have HSC : Hid (∀ s ∈ x.cmd, s.size ≤ 140737488355328) := Lib.hid h.cmd.small
  have HV := Lib.hid (fun (W : World) (hb : Below w.heap.size w W) (hr : RecIn W B x sc se sm sp) => rrValid_any W B x sc se sm sp hr ho (Nat.le_trans hB hb.size) m ((hb.cell hgm).trans hm))
  have HS : Hid (∀ s ∈ [(⟨#[114, 101, 99, 111, 114, 100]⟩ : ByteArray), x.run, x.scope, x.step, ⟨(Lib.itoa x.t).toArray⟩], s.size ≤ 140737488355328) := Lib.hid (by
    intro s hs
    simp only [List.mem_cons, List.mem_nil_iff, or_false] at hs
    rcases hs with rfl | rfl | rfl | rfl | rfl
    · decide
    · exact ho.run
    · exact Nat.le_trans ho.scope (by decide)
    · exact ho.step
    · show (Lib.itoa x.t).toArray.size ≤ _
      rw [List.size_toArray]
      have := Lib.itoa_length_le x.t h0 h1
      omega)
  have HCL : Hid ((recC x sc se sm sp).length = 8) := Lib.hid rfl
  have HBB := Lib.hid hB
  clear h ho hB h0 h1 hm
  go_enter Tryz.func5, Tryz.ntmps5
  go_upto_region 1 with (fail)
  refine wp_gen (hR.new (l := recC x sc se sm sp) _ 31 rfl rfl) ?_
  intro W hW
  have HVW := Lib.hid (HV.out W (hW.at_ 2 rfl : _ ∧ _).1 (hW.at_ 1 rfl : _ ∧ _).1)
  clear hR HV
  cases hv : recB x with
  | false =>
    rw [hv] at HVW
    have HB := Lib.hid hv
    clear hv
    go_wp2_with (first | (refine wl_load_any rfl 31 (.tmp 1) rfl ⟨w.heap.size, 0, none⟩ rfl (recC x sc se sm sp) _ (cell_allR (hW.at_ 0 rfl)) Tryz.underlying31 rfl (by rw [HCL.out]; kernel_rfl) ?_) | (go_at_call 13; refine HVW.out.mono ?_; rintro e w' ⟨rfl, hb'⟩; have hW2 := hW.call hb'))
    go_ret2
    exact ⟨_, _, rfl, (hW2.at_ 2 rfl : _ ∧ _).1, fun h => by rw [HB.out] at h; (cases h), fun _ => ⟨rfl, rfl⟩⟩
  | true =>
    rw [hv] at HVW
    have HB := Lib.hid hv
    clear hv
    go_upto_region 3 with (first | (refine wl_load_any rfl 31 (.tmp 1) rfl ⟨w.heap.size, 0, none⟩ rfl (recC x sc se sm sp) _ (cell_allR (hW.at_ 0 rfl)) Tryz.underlying31 rfl (by rw [HCL.out]; kernel_rfl) ?_) | (go_at_call 13; refine HVW.out.mono ?_; rintro e w' ⟨rfl, hb'⟩; have hW2 := hW.call hb'))
    clear hW hb' HVW
    obtain ⟨sn, hsn⟩ : ∃ s : ByteArray, s = ⟨(Lib.itoa x.t).toArray⟩ := ⟨_, rfl⟩
    rw [← hsn] at HS
    have HSN := Lib.hid hsn
    clear hsn
    refine wp_region_hops 10 [9, 10, 11, 12, 13, 14, 15, 16, 17, 18] _
      [.eq (.pointer (some ⟨w.heap.size, 0, none⟩)), .eq (.string x.run), .eq (.pointer (some ⟨w.heap.size, 1, none⟩)), .eq (.string x.scope), .eq (.pointer (some ⟨w.heap.size, 2, none⟩)), .eq (.string x.step), .eq (.pointer (some ⟨w.heap.size, 3, none⟩)), .eq (.int .i64 x.t), .eq (.string sn), .rowF (w.heap.size + 1) [(⟨#[114, 101, 99, 111, 114, 100]⟩ : ByteArray), x.run, x.scope, x.step, sn]]
      (by kernel_rfl) (by kernel_rfl) hW2 rfl ?hops ?fin
    case hops =>
      refine ⟨?_, ?_, ?_, ?_, ?_, ?_, ?_, ?_, ?_, ?_, trivial⟩
      · intro a' W hW hb hd K hK
        have b1 := hb 1 rfl
        go_simp
        exact hK _ _ (World.grownBy.refl _ _) rfl
      · intro a' W hW hb hd K hK
        have b9 : a'.tmps[9]?.getD undef = _ := hd ⟨0, .data⟩ (by simp) rfl
        have cc := cell_of (hW.at_ 0 rfl) (i := 0) rfl
        go_simp
        exact hK _ _ (World.grownBy.refl _ _) rfl
      · intro a' W hW hb hd K hK
        have b1 := hb 1 rfl
        go_simp
        exact hK _ _ (World.grownBy.refl _ _) rfl
      · intro a' W hW hb hd K hK
        have b11 : a'.tmps[11]?.getD undef = _ := hd ⟨2, .data⟩ (by simp) rfl
        have cc := cell_of (hW.at_ 0 rfl) (i := 1) rfl
        go_simp
        exact hK _ _ (World.grownBy.refl _ _) rfl
      · intro a' W hW hb hd K hK
        have b1 := hb 1 rfl
        go_simp
        exact hK _ _ (World.grownBy.refl _ _) rfl
      · intro a' W hW hb hd K hK
        have b13 : a'.tmps[13]?.getD undef = _ := hd ⟨4, .data⟩ (by simp) rfl
        have cc := cell_of (hW.at_ 0 rfl) (i := 2) rfl
        go_simp
        exact hK _ _ (World.grownBy.refl _ _) rfl
      · intro a' W hW hb hd K hK
        have b1 := hb 1 rfl
        go_simp
        exact hK _ _ (World.grownBy.refl _ _) rfl
      · intro a' W hW hb hd K hK
        have b15 : a'.tmps[15]?.getD undef = _ := hd ⟨6, .data⟩ (by simp) rfl
        have cc := cell_of (hW.at_ 0 rfl) (i := 3) rfl
        go_simp
        exact hK _ _ (World.grownBy.refl _ _) rfl
      · intro a' W hW hb hd K hK
        have b16 : a'.tmps[16]?.getD undef = _ := hd ⟨7, .data⟩ (by simp) rfl
        go_simp
        refine (refNumber_any x.t H0.out H1.out W).mono ?_
        rintro e w' ⟨rfl, hb'⟩
        exact hK _ _ (grown_of_below hb') (congrArg Value.string HSN.out.symm)
      · intro a' W hW hb hd K hK
        have b10 : a'.tmps[10]?.getD undef = _ := hd ⟨1, .data⟩ (by simp) rfl
        have b12 : a'.tmps[12]?.getD undef = _ := hd ⟨3, .data⟩ (by simp) rfl
        have b14 : a'.tmps[14]?.getD undef = _ := hd ⟨5, .data⟩ (by simp) rfl
        have b17 : a'.tmps[17]?.getD undef = _ := hd ⟨8, .data⟩ (by simp) rfl
        have hl := Cells.lt (hW.at_ 0 rfl)
        go_simp
        exact hK _ _ (grown_alloc _ _) ⟨_, _, rfl, ⟨_, _, rfl, Nat.le_refl _, (by show 5 ≤ maxLen; decide), ⟨(Rd.lit W #[.string (⟨#[114, 101, 99, 111, 114, 100]⟩ : ByteArray), .string x.run, .string x.scope, .string x.step, .string sn] _ 5 rfl).mono (by simp), HS.out⟩⟩, fun ad e => by injection e with e; subst e; exact ⟨by show w.heap.size + 1 ≤ W.heap.size; omega, by simp⟩⟩
    case fin =>
      intro vs V hV hv
      have e9 : RowF (w.heap.size + 1) [(⟨#[114, 101, 99, 111, 114, 100]⟩ : ByteArray), x.run, x.scope, x.step, sn] V (vs 9) := hv 9 (by decide)
      clear hv hW2
      obtain ⟨A9, c9, h9, r9, f9⟩ := e9
      rw [h9] at r9
      have hl9 : ([(⟨#[114, 101, 99, 111, 114, 100]⟩ : ByteArray), x.run, x.scope, x.step, sn] : List ByteArray).length = 5 := rfl
      rw [hl9] at h9 r9
      simp only [putAll, Nat.zero_add, Nat.reduceAdd, List.drop_succ_cons, List.drop_zero, h9, Act.put, List.setIfInBounds_toArray, List.set_cons_succ, List.set_cons_zero]
      clear h9
      have hsV : w.heap.size + 1 ≤ V.heap.size := Cells.lt (hV.at_ 0 rfl)
      have hN := nest_one (V := V) (base := w.heap.size + 1) (t := 27) (A1 := A9) (n1 := 5) (c1 := c9) (s1 := [(⟨#[114, 101, 99, 111, 114, 100]⟩ : ByteArray), x.run, x.scope, x.step, sn]) hsV r9 f9
      have hV1 := (hV.alloc (.cells #[.slice A9 5 c9] 27)).cons (r := .nest (w.heap.size + 1) 27 1 (some ⟨V.heap.size, 0, none⟩) 1 1 [.slice A9 5 c9] (w.heap.size + 1) (fun b => ∃ ad, A9 = some ad ∧ b = ad.block) (fun W => All2 (RowS W W.heap.size) [.slice A9 5 c9] [[(⟨#[114, 101, 99, 111, 114, 100]⟩ : ByteArray), x.run, x.scope, x.step, sn]])) hN
      have hg0 : V.heap.size < (V.alloc (.cells #[.slice A9 5 c9] 27)).heap.size := by simp
      clear hN hV r9 f9
      go_upto_region 4 with (fail)
      refine wp_genP (Pr := fun U => V.heap.size < U.heap.size ∧ All U _) ⟨hg0, hV1⟩ ?_
      rintro U ⟨hg0', hU⟩
      clear hV1 hg0
      obtain ⟨g0, hg0⟩ : ∃ g, g = V.heap.size := ⟨_, rfl⟩
      rw [← hg0] at hU hsV hg0' ⊢
      clear hg0
      obtain ⟨g1, hg1⟩ : ∃ g, g = U.heap.size := ⟨_, rfl⟩
      have hlU := Cells.lt (hU.at_ 1 rfl)
      have hBU := (hU.at_ 2 rfl : _ ∧ B ≤ U.heap.size).2
      obtain ⟨U1, hU1⟩ : ∃ u, u = U.alloc (.cells #[.string (⟨#[99, 111, 109, 109, 97, 110, 100]⟩ : ByteArray)] 9) := ⟨_, rfl⟩
      have hapN := apartN (t2 := 31) (cs := recC x sc se sm sp) (x := x) (sc := sc) (se := se) (sm := sm) (sp := sp) (B := B) (hU.at_ 0 rfl : Nest U (w.heap.size + 1) 27 1 (some ⟨g0, 0, none⟩) 1 1 [.slice A9 5 c9] (w.heap.size + 1) (fun b => ∃ ad, A9 = some ad ∧ b = ad.block) (fun W => All2 (RowS W W.heap.size) [.slice A9 5 c9] [[(⟨#[114, 101, 99, 111, 114, 100]⟩ : ByteArray), x.run, x.scope, x.step, sn]])) hg1 (by omega) hBU
      have hA1 : All U1 [.own g1 9 1 (some ⟨g1, 0, none⟩) 1 1 [.string (⟨#[99, 111, 109, 109, 97, 110, 100]⟩ : ByteArray)], .nest (w.heap.size + 1) 27 1 (some ⟨g0, 0, none⟩) 1 1 [.slice A9 5 c9] (w.heap.size + 1) (fun b => ∃ ad, A9 = some ad ∧ b = ad.block) (fun W => All2 (RowS W W.heap.size) [.slice A9 5 c9] [[(⟨#[114, 101, 99, 111, 114, 100]⟩ : ByteArray), x.run, x.scope, x.step, sn]]), .cells w.heap.size 31 (recC x sc se sm sp), .low (Go.AdR.Low.recd B x sc se sm sp), .kept w w.heap.size] := by
        rw [hU1]
        refine (hU.alloc _).cons ?_
        have := Go.Adm.Own.lit (size := 1) (e := 9) U #[.string (⟨#[99, 111, 109, 109, 97, 110, 100]⟩ : ByteArray)] 1 (base := g1) (by omega) (by decide) rfl
        rw [← hg1] at this
        exact this
      have c4 : (U.alloc (.cells #[.string (⟨#[99, 111, 109, 109, 97, 110, 100]⟩ : ByteArray)] 9)).cell? ⟨w.heap.size, 4, none⟩ = some (.slice sc.A sc.n sc.c) := by rw [← hU1]; exact cell_of (hA1.at_ 2 rfl) (i := 4) rfl
      have hs1 : U1.heap.size = g1 + 1 := by rw [hU1, hg1]; simp
      have hin := (hA1.at_ 3 rfl : RecIn U1 B x sc se sm sp ∧ B ≤ U1.heap.size)
      have hgw : w.heap.size < g1 := by omega
      have hg01 : g0 < g1 := by omega
      have hB0 := HBB.out
      go_upto_region 5 with (first
        | (rw [← hU1]; simp only [← hg1]; clear c4 hU1 hg1; refine wl_app_at el_strR hA1 0 rfl (.tmp 21) (.tmp 23) rfl g1 (some ⟨g1, 0, none⟩) 1 1 [.string (⟨#[99, 111, 109, 109, 97, 110, 100]⟩ : ByteArray)] rfl rfl B sc.A sc.n sc.c (x.cmd.map sv) rfl ?hr ?h1 ?hb ?hba ?hap ?hk; go_must (
            case hr => exact hin.1.cmd.rd
            case h1 => exact fun u hu => by obtain ⟨s, _, rfl⟩ := List.mem_map.1 hu; rfl
            case hb => exact (by have := HNC2.out; omega)
            case hba => omega
            case hap => exact (fun g hg he => by obtain rfl : g1 = g := (by simpa [Value.ownBlock] using he); exact hapN)
            intro A4 c4 w4 hA4 hs4
            have ho4 := (hA4.at_ 0 rfl : Go.Adm.Own w4 g1 9 1 A4 (1 + sc.n) c4 ([.string (⟨#[99, 111, 109, 109, 97, 110, 100]⟩ : ByteArray)] ++ x.cmd.map sv))
            have hr4 := rowF_app HNC.out HSC.out ho4
            have hsz4 : g1 + 1 ≤ w4.heap.size := by omega
            obtain ⟨w5, hw5⟩ : ∃ u, u = w4.alloc (.cells #[.slice A4 (1 + sc.n) c4] 27) := ⟨_, rfl⟩
            have hA5 := (hA4.2).alloc (.cells #[.slice A4 (1 + sc.n) c4] 27)
            have hs5 : w5.heap.size = w4.heap.size + 1 := by rw [hw5]; simp
            rw [← hw5] at hA5
            have hrd5 := (Rd.lit (size := 1) w4 #[.slice A4 (1 + sc.n) c4] 27 1 rfl).mono (B' := w5.heap.size) (by omega)
            rw [← hw5] at hrd5
            have hrow5 : RowS w5 w5.heap.size (.slice A4 (1 + sc.n) c4) ((⟨#[99, 111, 109, 109, 97, 110, 100]⟩ : ByteArray) :: x.cmd) := by rw [hw5]; exact RowS.grown (grown_alloc _ _) (rowF_row hr4)
            have hfr5 := rowF_fr hr4
            clear hs4 hA4 ho4 hr4))
        | (rw [← hw5]; refine wl_app_nest el_line hA5 0 rfl (.tmp 20) (.tmp 25) rfl (w.heap.size + 1) (some ⟨g0, 0, none⟩) 1 1 [.slice A9 5 c9] (w.heap.size + 1) _ _ rfl rfl w5.heap.size (some ⟨w4.heap.size, 0, none⟩) 1 1 [.slice A4 (1 + sc.n) c4] rfl hrd5 ?nh1 ?nhb ?nhba (Nat.le_refl _) (fun b => ∃ ad, A4 = some ad ∧ b = ad.block) (fun W => RowS W W.heap.size (.slice A4 (1 + sc.n) c4) ((⟨#[99, 111, 109, 109, 97, 110, 100]⟩ : ByteArray) :: x.cmd)) hrow5 (RowS.st (fun ad' e => .inr ⟨ad', e, rfl⟩)) ?nhF ?nhap ?nhk; go_must (
            case nh1 => exact fun u hu => by rw [List.mem_singleton.1 hu]; rfl
            case nhb => decide
            case nhba => omega
            case nhF =>
              intro b hb
              obtain ⟨ad', e, rfl⟩ := hb
              have h9 := hfr5 ad' e
              exact ⟨by omega, by omega, by simp [Value.ownBlock]; omega⟩
            case nhap =>
              intro g hg he
              obtain rfl : g0 = g := (by simpa [Value.ownBlock] using he)
              refine ⟨fun e => by injection e with e; omega, fun g e => ?_, fun g e => ?_, trivial⟩
              all_goals (injection e with e; subst e; first | (show B ≤ g0; omega) | omega)
            intro A6 c6 w6 hA6 hs6)))
      clear hA1 hapN hin
      have hrec := (hA6.at_ 2 rfl : RecIn w6 B x sc se sm sp ∧ B ≤ w6.heap.size)
      have hU2 : All w6 [.nest (w.heap.size + 1) 27 1 A6 (2 + 0) c6 ([.slice A9 5 c9] ++ [.slice A4 (1 + sc.n) c4]) (w.heap.size + 1) (fun b => (∃ ad, A9 = some ad ∧ b = ad.block) ∨ ∃ ad, A4 = some ad ∧ b = ad.block) (fun W => All2 (RowS W W.heap.size) ([.slice A9 5 c9] ++ [.slice A4 (1 + sc.n) c4]) ([[(⟨#[114, 101, 99, 111, 114, 100]⟩ : ByteArray), x.run, x.scope, x.step, sn], (⟨#[99, 111, 109, 109, 97, 110, 100]⟩ : ByteArray) :: x.cmd] ++ (x.env.take 0).map envLn)), .cells w.heap.size 31 [.string x.run, .string x.scope, .string x.step, .int .i64 x.t, .slice sc.A sc.n sc.c, .slice se.A se.n se.c, .slice sm.A sm.n sm.c, .slice sp.A sp.n sp.c], .low (.els B 2 se.A se.n (x.env.map varC)), .low (.els B 33 sm.A sm.n (x.mat.map entC)), .low (.els B 33 sp.A sp.n (x.prod.map entC)), .kept w w.heap.size] := ⟨Nest.as (hA6.at_ 0 rfl) (fun W' => (All2.snoc.symm : _ ↔ All2 (RowS W' W'.heap.size) ([.slice A9 5 c9] ++ [.slice A4 (1 + sc.n) c4]) ([[(⟨#[114, 101, 99, 111, 114, 100]⟩ : ByteArray), x.run, x.scope, x.step, sn]] ++ [(⟨#[99, 111, 109, 109, 97, 110, 100]⟩ : ByteArray) :: x.cmd]))), hA6.2.1, ⟨hrec.1.env, hrec.2⟩, ⟨hrec.1.mat, hrec.2⟩, ⟨hrec.1.prod, hrec.2⟩, hA6.2.2.2⟩
      have HNE : Hid (x.env.length = se.n) := Lib.hid (by have := hrec.1.env.len; simpa using this)
      have HNM : Hid (x.mat.length = sm.n) := Lib.hid (by have := hrec.1.mat.len; simpa using this)
      have HNP : Hid (x.prod.length = sp.n) := Lib.hid (by have := hrec.1.prod.len; simpa using this)
      have hne6 : se.n ≤ 1000000 := by rw [← HNE.out]; exact HO.out.nenv
      clear hA6 hrec HSC HS HCL hs6 hlU hBU hs1 hsz4 hsV hg0' hU hgw hg01 hB0 hA5 hrd5 hrow5 hfr5 hs5
      generalize se.A = eA at *
      generalize se.n = en at *
      generalize se.c = ec at *
      generalize sm.A = mA at *
      generalize sm.n = mn at *
      generalize sm.c = mc at *
      generalize sp.A = pA at *
      generalize sp.n = pn at *
      generalize sp.c = pc at *
      go_upto_region 6 with (fail)
      go_loopw [4, 5] (fun v i wr => ∃ (k : Nat) (A' : Option Addr) (c' : Nat) (vs : List Value) (F : Nat → Prop), k ≤ en ∧ i = .int .i64 k ∧ v = .slice A' (2 + k) c' ∧ All wr [.nest (w.heap.size + 1) 27 1 A' (2 + k) c' vs (w.heap.size + 1) F (fun W => All2 (RowS W W.heap.size) vs ([[(⟨#[114, 101, 99, 111, 114, 100]⟩ : ByteArray), x.run, x.scope, x.step, sn], (⟨#[99, 111, 109, 109, 97, 110, 100]⟩ : ByteArray) :: x.cmd] ++ (x.env.take k).map envLn)), .cells w.heap.size 31 [.string x.run, .string x.scope, .string x.step, .int .i64 x.t, .slice sc.A sc.n sc.c, .slice eA en ec, .slice mA mn mc, .slice pA pn pc], .low (.els B 2 eA en (x.env.map varC)), .low (.els B 33 mA mn (x.mat.map entC)), .low (.els B 33 pA pn (x.prod.map entC)), .kept w w.heap.size]) (fun _ i _ => en - (intOf i).toNat)
      case atStart => exact ⟨0, _, _, _, _, by omega, rfl, rfl, hU2⟩
      case round =>
        clear hU2
        obtain ⟨k, A', c', vs, F, hk, rfl, rfl, hI⟩ := hrel
        have c5 := cell_of (hI.at_ 1 rfl) (i := 5) rfl
        by_cases hlt : k < en
        · have hkl : k < x.env.length := by rw [HNE.out]; exact hlt
          obtain ⟨ad, hA', hadB, hc⟩ := Els.at_ (hI.at_ 2 rfl : Els wr B 2 eA en (x.env.map varC) ∧ B ≤ wr.heap.size).1 (k := k) (by rw [List.length_map]; exact hkl)
          subst hA'
          clear hc
          have HX : Hid (∀ W, All W [.nest (w.heap.size + 1) 27 1 A' (2 + k) c' vs (w.heap.size + 1) F (fun W => All2 (RowS W W.heap.size) vs ([[(⟨#[114, 101, 99, 111, 114, 100]⟩ : ByteArray), x.run, x.scope, x.step, sn], (⟨#[99, 111, 109, 109, 97, 110, 100]⟩ : ByteArray) :: x.cmd] ++ (x.env.take k).map envLn)), .cells w.heap.size 31 [.string x.run, .string x.scope, .string x.step, .int .i64 x.t, .slice sc.A sc.n sc.c, .slice (some ad) en ec, .slice mA mn mc, .slice pA pn pc], .low (.els B 2 (some ad) en (x.env.map varC)), .low (.els B 33 mA mn (x.mat.map entC)), .low (.els B 33 pA pn (x.prod.map entC)), .kept w w.heap.size] → W.cell? (ad.add (k * 2)) = some (.string x.env[k].n) ∧ W.cell? ((ad.add (k * 2)).add 1) = some (.string x.env[k].v)) := Lib.hid (fun W hW => by
            obtain ⟨ad', e, _, hc⟩ := Els.at_ (hW.at_ 2 rfl : Els W B 2 (some ad) en (x.env.map varC) ∧ B ≤ W.heap.size).1 (k := k) (by rw [List.length_map]; exact hkl)
            obtain rfl := Option.some.inj e
            rw [List.getElem_map] at hc
            have h0 := hc 0 (.string x.env[k].n) rfl
            have h1 := hc 1 (.string x.env[k].v) rfl
            rw [add_zero] at h0
            exact ⟨h0, h1⟩)
          have hy := Lib.hid (HO.out.env _ (List.getElem_mem hkl))
          have HT : Hid ((x.env.take (k + 1)).map envLn = (x.env.take k).map envLn ++ [envLn x.env[k]]) := Lib.hid (by rw [List.take_succ_eq_append_getElem hkl, List.map_append]; rfl)
          generalize x.env[k] = y at *
          have d1 : decide ((k : Int) < (en : Int)) = true := by simp; omega
          have wk0 : (0 : Int) ≤ (k : Int) := by omega
          have wk1 : (k : Int) < (en : Int) := by omega
          have wk2 : ((k : Int)).toNat = k := by omega
          have hB0 := HBB.out
          go_upto_region 8 with (fail)
          clear c5 d1
          refine wp_region_hops 15 [34, 35, 36, 37, 38, 39, 40, 41, 42, 43, 44, 45, 46, 47, 48] [.nest (w.heap.size + 1) 27 1 A' (2 + k) c' vs (w.heap.size + 1) F (fun W => All2 (RowS W W.heap.size) vs ([[(⟨#[114, 101, 99, 111, 114, 100]⟩ : ByteArray), x.run, x.scope, x.step, sn], (⟨#[99, 111, 109, 109, 97, 110, 100]⟩ : ByteArray) :: x.cmd] ++ (x.env.take k).map envLn)), .cells w.heap.size 31 [.string x.run, .string x.scope, .string x.step, .int .i64 x.t, .slice sc.A sc.n sc.c, .slice (some ad) en ec, .slice mA mn mc, .slice pA pn pc], .low (.els B 2 (some ad) en (x.env.map varC)), .low (.els B 33 mA mn (x.mat.map entC)), .low (.els B 33 pA pn (x.prod.map entC)), .kept w w.heap.size]
            [.eq (.slice A' (2 + k) c'), .eq (.pointer (some ⟨w.heap.size, 5, none⟩)), .eq (.slice (some ad) en ec), .eq (.int .i64 k), .eq (.pointer (some (ad.add (k * 2)))), .eq (.pointer (some (ad.add (k * 2)))), .eq (.string y.n), .eq (.pointer (some ⟨w.heap.size, 5, none⟩)), .eq (.slice (some ad) en ec), .eq (.int .i64 k), .eq (.pointer (some (ad.add (k * 2)))), .eq (.pointer (some ((ad.add (k * 2)).add 1))), .eq (.string y.v), .strs (w.heap.size + 1) (.slice A' (2 + k) c') (envLn y), .line (w.heap.size + 1) (.slice A' (2 + k) c') (envLn y)]
            (by kernel_rfl) (by kernel_rfl) hI rfl ?hops ?fin
          case hops =>
            refine ⟨?_, ?_, ?_, ?_, ?_, ?_, ?_, ?_, ?_, ?_, ?_, ?_, ?_, ?_, ?_, trivial⟩
            · intro a' W hW hb hd K hK
              have b4 := hb 4 rfl
              go_simp
              exact hK _ _ (World.grownBy.refl _ _) rfl
            · intro a' W hW hb hd K hK
              have b1 := hb 1 rfl
              go_simp
              exact hK _ _ (World.grownBy.refl _ _) rfl
            · intro a' W hW hb hd K hK
              have b35 : a'.tmps[35]?.getD undef = _ := hd ⟨1, .data⟩ (by simp) rfl
              have cc := cell_of (hW.at_ 1 rfl) (i := 5) rfl
              go_simp
              exact hK _ _ (World.grownBy.refl _ _) rfl
            · intro a' W hW hb hd K hK
              have b5 := hb 5 rfl
              go_simp
              exact hK _ _ (World.grownBy.refl _ _) rfl
            · intro a' W hW hb hd K hK
              have b36 : a'.tmps[36]?.getD undef = _ := hd ⟨2, .data⟩ (by simp) rfl
              have b37 : a'.tmps[37]?.getD undef = _ := hd ⟨3, .data⟩ (by simp) rfl
              go_simp
              exact hK _ _ (World.grownBy.refl _ _) rfl
            · intro a' W hW hb hd K hK
              have b38 : a'.tmps[38]?.getD undef = _ := hd ⟨4, .data⟩ (by simp) rfl
              go_simp
              exact hK _ _ (World.grownBy.refl _ _) (by first | rfl | (rw [add_zero]; rfl) | (simp [add_zero]; rfl))
            · intro a' W hW hb hd K hK
              have b39 : a'.tmps[39]?.getD undef = _ := hd ⟨5, .data⟩ (by simp) rfl
              have q1 : W.cell? (ad.add (k * 2)) = some (.string y.n) := (HX.out W hW).1
              go_simp
              exact hK _ _ (World.grownBy.refl _ _) rfl
            · intro a' W hW hb hd K hK
              have b1 := hb 1 rfl
              go_simp
              exact hK _ _ (World.grownBy.refl _ _) rfl
            · intro a' W hW hb hd K hK
              have b41 : a'.tmps[41]?.getD undef = _ := hd ⟨7, .data⟩ (by simp) rfl
              have cc := cell_of (hW.at_ 1 rfl) (i := 5) rfl
              go_simp
              exact hK _ _ (World.grownBy.refl _ _) rfl
            · intro a' W hW hb hd K hK
              have b5 := hb 5 rfl
              go_simp
              exact hK _ _ (World.grownBy.refl _ _) rfl
            · intro a' W hW hb hd K hK
              have b42 : a'.tmps[42]?.getD undef = _ := hd ⟨8, .data⟩ (by simp) rfl
              have b43 : a'.tmps[43]?.getD undef = _ := hd ⟨9, .data⟩ (by simp) rfl
              go_simp
              exact hK _ _ (World.grownBy.refl _ _) rfl
            · intro a' W hW hb hd K hK
              have b44 : a'.tmps[44]?.getD undef = _ := hd ⟨10, .data⟩ (by simp) rfl
              go_simp
              exact hK _ _ (World.grownBy.refl _ _) (by first | rfl | (rw [add_zero]; rfl) | (simp [add_zero]; rfl))
            · intro a' W hW hb hd K hK
              have b45 : a'.tmps[45]?.getD undef = _ := hd ⟨11, .data⟩ (by simp) rfl
              have q1 : W.cell? ⟨(ad.add (k * 2)).block, (ad.add (k * 2)).off + 1, none⟩ = some (.string y.v) := (HX.out W hW).2
              go_simp
              exact hK _ _ (World.grownBy.refl _ _) rfl
            · intro a' W hW hb hd K hK
              have b40 : a'.tmps[40]?.getD undef = _ := hd ⟨6, .data⟩ (by simp) rfl
              have b46 : a'.tmps[46]?.getD undef = _ := hd ⟨12, .data⟩ (by simp) rfl
              have hl := Cells.lt (hW.at_ 1 rfl)
              go_simp
              refine hK _ _ (grown_alloc _ _) ⟨⟨W.heap.size, 0, none⟩, rfl, ⟨(Rd.lit W #[.string (⟨#[101, 110, 118]⟩ : ByteArray), .string y.n, .string y.v] _ 3 rfl).mono (by simp), ?_⟩, (by show w.heap.size + 1 ≤ W.heap.size; omega), by simp, fun e => ?_⟩
              · intro s hs
                simp only [envLn, List.mem_cons, List.mem_nil_iff, or_false] at hs
                rcases hs with rfl | rfl | rfl
                · decide
                · exact hy.out.1
                · exact hy.out.2
              · have := ((hW.at_ 0 rfl : Nest W (w.heap.size + 1) 27 1 A' (2 + k) c' vs (w.heap.size + 1) F _).own.lt e).2
                exact absurd this (Nat.lt_irrefl _)
            · intro a' W hW hb hd K hK
              obtain ⟨ad3, b47, hs3, h31, h32, h33⟩ := (hd ⟨13, .data⟩ (by simp) rfl : VF.ok (.strs (w.heap.size + 1) (.slice A' (2 + k) c') (envLn y)) (a'.tmps[47]?.getD undef) W)
              replace b47 : a'.tmps[47]?.getD undef = .slice (some ad3) 3 3 := b47
              go_simp
              exact hK _ _ (grown_alloc _ _) ⟨_, _, ad3, rfl, (Rd.lit W #[.slice (some ad3) 3 3] _ 1 rfl).mono (by simp), hs3.grownN (grown_alloc _ _), h31, by simp; omega, h33⟩
          case fin =>
            intro vv V hV hv
            have e0 : vv 0 = _ := hv 0 (by decide)
            obtain ⟨A9, c9, ad3, e9, hRd, hs3, h31, h34, h33⟩ := (hv 14 (by decide) : VF.ok (.line (w.heap.size + 1) (.slice A' (2 + k) c') (envLn y)) (vv 14) V)
            clear hv
            simp only [putAll, Nat.zero_add, Nat.reduceAdd, List.drop_succ_cons, List.drop_zero, e0, e9, Act.put, List.setIfInBounds_toArray, List.set_cons_succ, List.set_cons_zero]
            clear e0 e9
            have hsV : w.heap.size + 1 ≤ V.heap.size := Cells.lt (hV.at_ 1 rfl)
            refine wl_app_nest el_line hV 0 rfl (.tmp 34) (.tmp 48) rfl (w.heap.size + 1) A' (2 + k) c' vs (w.heap.size + 1) F _ rfl rfl V.heap.size _ 1 _ [.slice (some ad3) 3 3] rfl hRd (by intro u hu; simp only [List.mem_singleton] at hu; subst hu; rfl) (by omega) hsV (Nat.le_refl _) (fun b => b = ad3.block) (fun W => RowS W W.heap.size (.slice (some ad3) 3 3) (envLn y)) (RowS.of_at ⟨ad3, rfl, by simp [envLn], hs3⟩) (RowS.st (fun ad' e => .inr (by injection e with e; subst e; rfl))) (fun b hb => by subst hb; exact ⟨h31, h34, h33⟩) (by intro g hg _; simp [Apart, Res.apart, Low.els] <;> omega) ?_
            intro A7 c7 w7 hI7 hs7
            go_wp2
            refine ⟨⟨k + 1, A7, c7, vs ++ [.slice (some ad3) 3 3], (fun b => F b ∨ b = ad3.block), by omega, by go_num, rfl, ?_⟩, by simp [intOf]; omega⟩
            refine ⟨Nest.as (hI7.at_ 0 rfl) (fun W' => ?_), hI7.2⟩
            rw [HT.out, ← List.append_assoc]
            exact All2.snoc.symm
        · obtain rfl : k = en := by omega
          have d1 : decide ((k : Int) < (k : Int)) = false := by simp
          rw [List.take_of_length_le (by rw [HNE.out]; exact Nat.le_refl _)] at hI
          have c6 := cell_of (hI.at_ 1 rfl) (i := 6) rfl
          have hB0 := HBB.out
          have hsz : w.heap.size + 1 ≤ wr.heap.size := Cells.lt (hI.at_ 1 rfl)
          have HLM := Lib.hid (refLines_any ⟨#[109, 97, 116, 101, 114, 105, 97, 108]⟩ (by decide) wr B mA mn mc x.mat (hI.at_ 3 rfl : _ ∧ _).1 HO.out.mat HNM.out (by rw [← HNM.out]; exact HO.out.nmat) (by omega))
          have hown := Lib.hid (fun g (e : (Value.slice A' (2 + k) c').ownBlock = some g) => (((hI.at_ 0 rfl : Nest wr (w.heap.size + 1) 27 1 A' (2 + k) c' vs (w.heap.size + 1) F (fun W => All2 (RowS W W.heap.size) vs ([[(⟨#[114, 101, 99, 111, 114, 100]⟩ : ByteArray), x.run, x.scope, x.step, sn], (⟨#[99, 111, 109, 109, 97, 110, 100]⟩ : ByteArray) :: x.cmd] ++ x.env.map envLn))).own.lt e).2))
          have hmn : mn ≤ 1000000 := by rw [← HNM.out]; exact HO.out.nmat
          have hpn : pn ≤ 1000000 := by rw [← HNP.out]; exact HO.out.nprod
          go_upto_region 10 with (first
            | (go_at_call 15; refine HLM.out.mono ?_; rintro e w2 ⟨Am, cm, vm, Fm, rfl, hb2, hN2⟩; have hI2 := hI.call hb2; have hs2 := hb2.size)
            | (refine wl_app_nest el_line hI2 0 rfl (.tmp 50) (.tmp 53) rfl (w.heap.size + 1) A' (2 + k) c' vs (w.heap.size + 1) F _ rfl rfl w2.heap.size Am mn cm vm rfl hN2.own.rd (rowAt_one hN2.inn) (by omega) (by omega) (Nat.le_refl _) Fm _ hN2.inn (st_zero hN2.st) (fun b hb => ⟨by have := (hN2.fr b hb).1; omega, (hN2.fr b hb).2, fun e => by have h1 := (hN2.fr b hb).1; have h2 := hown.out _ e; omega⟩) (by intro g hg he; have := hown.out _ he; simp [Apart, Res.apart, Low.els] <;> omega) ?_; intro A3 c3 w3 hI3 hs3))
          clear hI hI2 hN2 hb2 hown HLM c6 c5
          have c7 := cell_of (hI3.at_ 1 rfl) (i := 7) rfl
          have hsz3 : w.heap.size + 1 ≤ w3.heap.size := Cells.lt (hI3.at_ 1 rfl)
          have HLP := Lib.hid (refLines_any ⟨#[112, 114, 111, 100, 117, 99, 116]⟩ (by decide) w3 B pA pn pc x.prod (hI3.at_ 4 rfl : _ ∧ _).1 HO.out.prod HNP.out (by rw [← HNP.out]; exact HO.out.nprod) (by omega))
          have hown3 := Lib.hid (fun g (e : (Value.slice A3 (2 + k + mn) c3).ownBlock = some g) => (((hI3.at_ 0 rfl : Nest w3 (w.heap.size + 1) 27 1 A3 (2 + k + mn) c3 (vs ++ vm) (w.heap.size + 1) (fun b => F b ∨ Fm b) (fun w => All2 (RowS w w.heap.size) vs ([[(⟨#[114, 101, 99, 111, 114, 100]⟩ : ByteArray), x.run, x.scope, x.step, sn], (⟨#[99, 111, 109, 109, 97, 110, 100]⟩ : ByteArray) :: x.cmd] ++ x.env.map envLn) ∧ All2 (RowAt w w.heap.size) vm (entLs ⟨#[109, 97, 116, 101, 114, 105, 97, 108]⟩ x.mat))).own.lt e).2))
          have HD : Hid (recLs x = (([[(⟨#[114, 101, 99, 111, 114, 100]⟩ : ByteArray), x.run, x.scope, x.step, sn], (⟨#[99, 111, 109, 109, 97, 110, 100]⟩ : ByteArray) :: x.cmd] ++ x.env.map envLn) ++ entLs ⟨#[109, 97, 116, 101, 114, 105, 97, 108]⟩ x.mat) ++ entLs ⟨#[112, 114, 111, 100, 117, 99, 116]⟩ x.prod) := Lib.hid (by rw [recLs, HSN.out])
          go_wp2_with (first
            | (go_at_call 15; refine HLP.out.mono ?_; rintro e w4 ⟨Ap, cp, vp, Fp, rfl, hb4, hN4⟩; have hI4 := hI3.call hb4; have hs4 := hb4.size)
            | (refine wl_app_nest el_line hI4 0 rfl (.tmp 55) (.tmp 58) rfl (w.heap.size + 1) A3 (2 + k + mn) c3 (vs ++ vm) (w.heap.size + 1) _ _ rfl rfl w4.heap.size Ap pn cp vp rfl hN4.own.rd (rowAt_one hN4.inn) (by omega) (by omega) (Nat.le_refl _) Fp _ hN4.inn (st_zero hN4.st) (fun b hb => ⟨by have := (hN4.fr b hb).1; omega, (hN4.fr b hb).2, fun e => by have h1 := (hN4.fr b hb).1; have h2 := hown3.out _ e; omega⟩) (by intro g hg he; have := hown3.out _ he; simp [Apart, Res.apart, Low.els] <;> omega) ?_; intro A5 c5 w5 hI5 hs5)
            | (go_at_call 16; have hN5 := (hI5.at_ 0 rfl : Nest w5 (w.heap.size + 1) 27 1 A5 (2 + k + mn + pn) c5 ((vs ++ vm) ++ vp) (w.heap.size + 1) _ (fun w => (All2 (RowS w w.heap.size) vs ([[(⟨#[114, 101, 99, 111, 114, 100]⟩ : ByteArray), x.run, x.scope, x.step, sn], (⟨#[99, 111, 109, 109, 97, 110, 100]⟩ : ByteArray) :: x.cmd] ++ x.env.map envLn) ∧ All2 (RowAt w w.heap.size) vm (entLs ⟨#[109, 97, 116, 101, 114, 105, 97, 108]⟩ x.mat)) ∧ All2 (RowAt w w.heap.size) vp (entLs ⟨#[112, 114, 111, 100, 117, 99, 116]⟩ x.prod))); refine (refEncode_any w5 w5.heap.size A5 _ c5 (recLs x) (by rw [HD.out]; exact Lines_ofS hN5.own.rd ((hN5.inn.1.1.append (hN5.inn.1.2.imp fun _ _ h => RowS.of_at h)).append (hN5.inn.2.imp fun _ _ h => RowS.of_at h)) (by omega)) (Nat.le_refl _)).mono ?_; intro e w6 hE; obtain ⟨ex, ey, rfl, hb6, hev⟩ := EncV.post hE (show w.heap.size ≤ w5.heap.size from by omega); have hk6 := (hI5.call hb6).at_ 5 rfl))
          go_ret2
          exact ⟨_, _, rfl, (hk6 : _ ∧ _).1, fun _ => hev, fun h => by rw [HB.out] at h; cases h⟩
end Go.Proofs.YtjdinakdkdjocaaGreatDoor

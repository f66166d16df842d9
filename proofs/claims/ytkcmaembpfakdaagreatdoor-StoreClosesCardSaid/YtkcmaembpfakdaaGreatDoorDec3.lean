/- document.Decode. -/
import Derived.Test.YtkcmaembpfakdaaGreatDoorDecH
import Derived.Test.YtkcmaembpfakdaaGreatDoorNumF
import Derived.Test.YtkcmaembpfakdaaGreatDoorDoc9
import Derived.WalkMore
import Derived.RangeFuncCalls
set_option linter.unusedSimpArgs false
set_option linter.unusedVariables false
set_option maxRecDepth 100000
namespace Go.Adm
open Go Go.RowKit
def lenOf : Value → Nat
  | .slice _ n _ => n
  | _ => 0
end Go.Adm
namespace Go.Proofs.YtkcmaembpfakdaaGreatDoor
open Go Go.RowKit Go.Adm Go.Shelf
attribute [local go_sem] Oper.semAt_some

theorem el_str : ElemOf Tryz.prog 53 9 (.string .empty) 1 16 := ElemOf.mk' Tryz.underlying53 (by kernel_rfl) rfl (by decide) (by decide)
theorem el_line : ElemOf Tryz.prog 57 53 (.slice none 0 0) 1 24 := ElemOf.mk' Tryz.underlying57 (by kernel_rfl) rfl (by decide) (by decide)
/-- the line up to the line's end, and the rest -/
theorem Cut10 (w : World) (B n c c1 : Nat) (A : Option Addr) (a1 : Addr) (r : List UInt8) (h : Rd w B 1 A n (r.map bv)) (hx : w.cell? a1 = some (bv 10)) (hnc : n ≤ c) (hcm : c ≤ maxLen) :
    Calls Tryz.prog 64 #[.slice A n c, .slice (some a1) 1 c1] w fun e w' => ∃ (l1 r1 : List UInt8) (i : Nat) (A2 : Option Addr) (n2 c2 : Nat) (fnd : Bool), e = .returned (.tuple #[.slice A i c, .slice A2 n2 c2, .bool fnd]) ∧ i ≤ n ∧ n2 ≤ c2 ∧ c2 ≤ maxLen ∧ Rd w B 1 A i (l1.map bv) ∧ Rd w B 1 A2 n2 (r1.map bv) ∧ 10 ∉ l1 ∧ (fnd = true → r = l1 ++ 10 :: r1 ∧ n2 < n) ∧ (fnd = false → r = l1) ∧ ∃ k, w' = w.drewN k := by
  have hl : r.length = n := by have := h.len; simpa using this
  by_cases hm : (10 : UInt8) ∈ r
  · obtain ⟨i, h1, h2, h3, h4⟩ := ix_some hm
    refine (bytesCut1_some w B n c c1 i A a1 r 10 h hx h1 (by omega) hnc hcm).mono ?_
    rintro e w' ⟨A2, c2, rfl, q1, q2, q3, q4, q5⟩
    exact ⟨r.take i, r.drop (i + 1), i, A2, _, c2, true, rfl, by omega, q1, Nat.le_trans q2 hcm, q3, q4, h3, fun _ => ⟨h4, by omega⟩, (fun e => by cases e), q5⟩
  · refine (bytesCut1_none w B n c c1 A a1 r 10 h hx hm).mono ?_
    rintro e w' ⟨rfl, q⟩
    exact ⟨r, [], n, none, 0, 0, false, rfl, Nat.le_refl _, Nat.le_refl _, by decide, h, Rd.nil, hm, (fun e => by cases e), fun _ => rfl, q⟩
theorem Decode_long (w : World) (B : Nat) (A : Option Addr) (n c : Nat) (b : List UInt8) (hb : Rd w B 1 A n (b.map bv)) (hL : 262144 < n) :
    Calls Tryz.prog 49 #[.slice A n c] w (DecPost b w) := by
  have hR : Hid (decR b = ([], 3)) := Lib.hid (decR_long (by have := hb.len; simp at this; omega))
  clear hb
  refine (callsIn_wide (n := 3)).1 ?_
  refine callsIn_of_wp_marks Tryz.func49 rfl trivial ?_
  refine wpIn_wide.2 ?_
  simp only [Tryz.ntmps49, List.size_toArray, List.length_cons, List.length_nil, Nat.reduceAdd, Nat.reduceSub, Array.replicate_succ, Array.replicate_zero, List.push_toArray, List.append_toArray, List.nil_append, List.cons_append]
  have d1 : decide ((262144 : Int) < (n : Int)) = true := by simp; omega
  go_wp2
  go_step3
  go_wp2
  exact ⟨_, results_tmp2 rfl _ _ _, none, 0, 0, by rw [hR.out]; rfl, by rw [hR.out]; exact Lines.nil _ _, by omega, by decide, Below.refl _ _⟩

set_option maxHeartbeats 6400000 in
theorem Decode_good (w : World) (B : Nat) (A : Option Addr) (n c : Nat) (b : List UInt8) (hb : Rd w B 1 A n (b.map bv)) (hnc : n ≤ c) (hcm : c ≤ maxLen) (hB : B ≤ w.heap.size) (hL : n ≤ 262144) :
    Calls Tryz.prog 49 #[.slice A n c] w (DecPost b w) := by
  have hHb := Lib.hid hb
  have hcm' : c ≤ 9223372036854775807 := hcm
  have hR : All w [.kept w w.heap.size] := ⟨⟨Below.refl _ _, Nat.le_refl _⟩, trivial⟩
  have HN : Hid (b.length = n) := Lib.hid (by have := hb.len; simpa using this)
  clear hb
  refine (callsIn_wide (n := 3)).1 ?_
  refine callsIn_of_wp_marks Tryz.func49 rfl trivial ?_
  refine wpIn_wide.2 ?_
  simp only [Tryz.ntmps49, List.size_toArray, List.length_cons, List.length_nil, Nat.reduceAdd, Nat.reduceSub, Array.replicate_succ, Array.replicate_zero, List.push_toArray, List.append_toArray, List.nil_append, List.cons_append]
  have d1 : decide ((262144 : Int) < (n : Int)) = false := by simp; omega
  go_wp2
  go_step3
  go_wp2
  go_step3
  go_wp2
  clear d1
  have hA := hR.new #[.bool true] 4 (g := w.heap.size) rfl rfl
  refine wp_loop (fun a wr => ∃ (r : List UInt8) (Ar : Option Addr) (nr cr : Nat) (acc : List (List ByteArray)) (na : Nat) (Al : Option Addr) (cl : Nat) (vs : List Value) (Fn : Nat → Prop) (Ds : List Nat) (u6 u7 u8 u9 u16 u17 u18 u19 u20 u21 u22 u23 u24 u25 u26 u27 u28 u42 u43 u44 u45 u46 u47 u48 u49 u50 u51 u52 u53 : Value), acc.length = na ∧ a = ⟨#[(.slice Ar nr cr), undef, (.slice none 0 0), (.int .i64 0), (.slice Al na cl), (.pointer (some ⟨w.heap.size, 0, none⟩)), u6, u7, u8, u9, undef, undef, undef, (.slice A n c), (.int .i64 n), (.bool false), u16, u17, u18, u19, u20, u21, u22, u23, u24, u25, u26, u27, u28, undef, undef, undef, undef, undef, undef, undef, undef, undef, undef, undef, undef, undef, u42, u43, u44, u45, u46, u47, u48, u49, u50, u51, u52, u53, undef, undef, undef, undef, undef, undef, undef, undef], Ds.map coll⟩ ∧ Hid (decO b = (decO r).map (acc ++ ·)) ∧ na + nr ≤ n ∧ nr ≤ cr ∧ cr ≤ maxLen ∧ Rd w B 1 Ar nr (r.map bv) ∧ All wr [.nest (w.heap.size + 1) 53 1 Al na cl vs w.heap.size Fn (fun W => All2 (RowS W W.heap.size) vs acc), .cells w.heap.size 4 [.bool true], .kept w w.heap.size] ∧ (∀ D ∈ Ds, w.heap.size ≤ D ∧ wr.heap[D]? = some (.deferred (some []))) ∧ Ds.Nodup) (fun a _ => lenOf (a.tmps.getD 0 undef)) ⟨b, A, n, c, [], 0, none, 0, [], fun _ => False, [], undef, undef, undef, undef, undef, undef, undef, undef, undef, undef, undef, undef, undef, undef, undef, undef, undef, undef, undef, undef, undef, undef, undef, undef, undef, undef, undef, undef, undef, rfl, rfl, Lib.hid (by cases decO b <;> rfl), by simp, hnc, hcm, hHb.out, ⟨Nest.start (fun _ => .nil), hA⟩, by simp, List.nodup_nil⟩ ?_
  rintro a wr ⟨r, Ar, nr, cr, acc, na, Al, cl, vs, Fn, Ds, u6, u7, u8, u9, u16, u17, u18, u19, u20, u21, u22, u23, u24, u25, u26, u27, u28, u42, u43, u44, u45, u46, u47, u48, u49, u50, u51, u52, u53, rfl, rfl, HD, hac, hncr, hcmr, hrd, hI, hDs, hnd⟩
  have hcmr' : cr ≤ 9223372036854775807 := hcmr
  have HRD := Lib.hid hrd
  have HLR : Hid (r.length = nr) := Lib.hid (by have := hrd.len; simpa using this)
  have HI := Lib.hid hI
  have HDS := Lib.hid hDs
  have hwr : w.heap.size < wr.heap.size := Cells.lt (hI.at_ 1 rfl)
  by_cases hpos : 0 < nr
  · have d2 : decide ((0 : Int) < (nr : Int)) = true := by simp; omega
    have hk : Below w.heap.size w wr := (hI.at_ 2 rfl : Below w.heap.size w wr ∧ _).1
    have HK := Lib.hid hk
    have hcut := Cut10 (wr.alloc (.cells #[bv 10] 5)) B nr cr 1 Ar ⟨wr.heap.size, 0, none⟩ r ((hrd.below hk hB).below ((Below.refl wr.heap.size wr).alloc (Nat.le_refl _) _) (by omega)) (Cells.cell (Cells.new wr 5 #[bv 10]) (i := 0) (by simp)) hncr hcmr
    clear hrd hI hDs hk
    go_wp2_with (first
      | (go_at_call 64; refine hcut.mono ?_; clear hcut; rintro e w' ⟨l1, r1, i, A2, n2, c2, fnd, rfl, hin, hn2, hcm2, hl1, hr1, h10, ht, hf, kd, rfl⟩; have HL1 := Lib.hid hl1; have HR1 := Lib.hid hr1; have H10 := Lib.hid h10; have HT := Lib.hid ht; have HF := Lib.hid hf; clear hl1 hr1 h10 ht hf)
      | (go_at_call 65; refine (SplitSeq_any _ _ _ _ _ _ _).mono ?_; rintro e w' ⟨rfl, rfl⟩))
    have HL1w : Hid (Rd w B 1 Ar i (l1.map bv)) := Lib.hid (HL1.out.keep fun p hp => ((World.cell?_alloc_lt wr _ p (by omega)).trans (HK.out.cell (by omega))).symm)
    have HR1w : Hid (Rd w B 1 A2 n2 (r1.map bv)) := Lib.hid (HR1.out.keep fun p hp => ((World.cell?_alloc_lt wr _ p (by omega)).trans (HK.out.cell (by omega))).symm)
    have HDm : Hid (∀ D ∈ Ds, w.heap.size ≤ D ∧ D < wr.heap.size) := Lib.hid fun D hD => ⟨(HDS.out D hD).1, (Array.getElem?_eq_some_iff.1 (HDS.out D hD).2).1⟩
    have h3 := (((((((HI.out.erase 0).new #[bv 10] 5 (g := wr.heap.size) rfl rfl).drewN kd).new #[.slice none 0 0] 53 (g := wr.heap.size + 1) (by simp) rfl).new #[.int .u8 32] 5 (g := wr.heap.size + 1 + 1) (by simp) rfl).new #[.slice Ar i cr] 36 (g := wr.heap.size + 1 + 1 + 1) (by simp) rfl).new #[.slice (some ⟨wr.heap.size + 1 + 1, 0, none⟩) 1 1] 36 (g := wr.heap.size + 1 + 1 + 1 + 1) (by simp) rfl).new #[.int .i64 0] 3 (g := wr.heap.size + 1 + 1 + 1 + 1 + 1) (by simp) rfl
    refine wp_genP (Pr := fun W => All W [.cells (wr.heap.size + 1 + 1 + 1 + 1 + 1) 3 [.int .i64 0], .cells (wr.heap.size + 1 + 1 + 1 + 1) 36 [.slice (some ⟨wr.heap.size + 1 + 1, 0, none⟩) 1 1], .cells (wr.heap.size + 1 + 1 + 1) 36 [.slice Ar i cr], .cells (wr.heap.size + 1 + 1) 5 [bv 32], .cells (wr.heap.size + 1) 53 [.slice none 0 0], .cells wr.heap.size 5 [bv 10], .cells w.heap.size 4 [.bool true], .kept w w.heap.size] ∧ Below wr.heap.size wr W ∧ W.heap.size = wr.heap.size + 1 + 1 + 1 + 1 + 1 + 1) ⟨h3, ?_, by simp⟩ ?_
    · exact (((((((Below.refl wr.heap.size wr).alloc (Nat.le_refl _) _).grown (grown_drewN _ kd) (by simp) (fun _ h => by cases h)).alloc (by simp; try omega) _).alloc (by simp; try omega) _).alloc (by simp; try omega) _).alloc (by simp; try omega) _).alloc (by simp; try omega) _
    clear h3
    rintro W0 ⟨h3, hbW, hs0⟩
    have H3 := Lib.hid h3
    have HBW := Lib.hid hbW
    have HS0 := Lib.hid hs0
    clear h3 hbW hs0
    refine (wpIn_wide (n := 3)).1 ?_
    refine range_cells (Bs := wr.heap.size + 1 + 1 + 1) rfl (by decide) (gf := 109) (lb := #[.pointer (some ⟨wr.heap.size + 1 + 1 + 1 + 1, 0, none⟩), .pointer (some ⟨wr.heap.size + 1 + 1 + 1, 0, none⟩), .pointer (some ⟨wr.heap.size + 1 + 1 + 1 + 1 + 1, 0, none⟩)]) rfl trivial (enters_of Tryz.func109 (by kernel_rfl) rfl) (by have := HS0.out; omega)
      (split_stops 2 (by decide) (wr.heap.size + 1 + 1 + 1) (wr.heap.size + 1 + 1 + 1 + 1) (wr.heap.size + 1 + 1 + 1 + 1 + 1) (wr.heap.size + 1 + 1) B 1 Ar i cr l1 w W0 HL1w.out (by omega) hcmr hB (by have := HS0.out; omega) (by omega) (by omega) (by omega) (by omega) (H3.out.at_ 2 rfl) ⟨H3.out.at_ 1 rfl, H3.out.at_ 0 rfl, H3.out.at_ 3 rfl, H3.out.at_ 7 rfl, trivial⟩)
      KpS.trans ?kb (fun _ => rfl)
      (fun pre W => ∃ (A' : Option Addr) (c' : Nat) (ws : List ByteArray), All W ([.own W0.heap.size 9 1 A' ws.length c' (ws.map sv), .cells (wr.heap.size + 1) 53 [.slice A' ws.length c'], .cells w.heap.size 4 [.bool true], .kept wr wr.heap.size]) ∧ wordsO (pre.map pcB) = some ws ∧ (∀ s ∈ ws, s.size ≤ 140737488355328) ∧ W0.heap.size ≤ W.heap.size ∧ (∀ D ∈ Ds, W.heap[D]? = some (.deferred (some []))))
      (fun cd pre W => cd = .exit 0 ∧ wordsO (pre.map pcB) = none ∧ All W [.cells w.heap.size 4 [.bool false], .kept w w.heap.size] ∧ (∀ D ∈ Ds, W.heap[D]? = some (.deferred (some []))))
      ?hi ?hix ?start (fun x => { tmps := #[(.slice Ar nr cr), undef, (.slice none 0 0), (.int .i64 0), (.slice Al acc.length cl), (.pointer (some ⟨w.heap.size, 0, none⟩)), (.slice Ar i cr), (.slice A2 n2 c2), (.bool fnd), (.pointer (some ⟨wr.heap.size + 1, 0, none⟩)), (.slice x.1.1 x.1.2.1 x.1.2.1), undef, undef, (.slice A n c), (.int .i64 n), (.bool false), (.slice Ar nr cr), (.int .i64 nr), (.bool true), (.tuple #[.slice Ar i cr, .slice A2 n2 c2, .bool fnd]), (.slice Ar nr cr), (.slice (some ⟨wr.heap.size, 0, none⟩) 1 1), (.tuple #[.slice Ar i cr, .slice A2 n2 c2, .bool fnd]), (.slice Ar i cr), (.slice A2 n2 c2), (.bool fnd), (.slice Ar i cr), (.slice (some ⟨wr.heap.size + 1 + 1, 0, none⟩) 1 1), (.func (.func 109) #[] #[.pointer (some ⟨wr.heap.size + 1 + 1 + 1 + 1, 0, none⟩), .pointer (some ⟨wr.heap.size + 1 + 1 + 1, 0, none⟩), .pointer (some ⟨wr.heap.size + 1 + 1 + 1 + 1 + 1, 0, none⟩)]), (.slice x.1.1 x.1.2.1 x.1.2.1), undef, undef, undef, undef, undef, undef, undef, undef, undef, undef, undef, undef, u42, u43, u44, u45, u46, u47, u48, u49, u50, u51, u52, u53, undef, undef, undef, undef, undef, undef, undef, undef], defers := [] }) ?assign ?body ?done ?stop
    case kb =>
      intro W l o o' hB' hD _
      have hs0 := HS0.out
      exact ⟨World.putObj_heap_other (by omega), fun h => h.step (grownBy_putObj' W l o') ⟨fun e => by injection e with e; omega, fun e => by injection e with e; omega, fun e => by injection e with e; omega, fun q e => by injection e with e; omega, trivial⟩⟩
    case hi =>
      rintro s W W' row ⟨A', c', ws, h1, h2, h3, h4, h5⟩ hg hr
      have hs0 := HS0.out
      refine ⟨A', c', ws, allC_from (f := fun _ : Unit => [.own W0.heap.size 9 1 A' ws.length c' (ws.map sv), .cells (wr.heap.size + 1) 53 [.slice A' ws.length c'], .cells w.heap.size 4 [.bool true], .kept wr wr.heap.size]) (fun _ => ⟨trivial, trivial, trivial, by show wr.heap.size ≤ W0.heap.size; omega, trivial⟩) (fun _ => ⟨fun q e => .inl (by injection e with e; omega), fun e => by injection e with e; omega, fun e => by injection e with e; omega, fun q e => by injection e with e; omega, trivial⟩) () W W' row h1 hg hr, h2, h3, Nat.le_trans h4 hg.size, fun D hD => ?_⟩
      refine (hg.block D (Array.getElem?_eq_some_iff.1 (h5 D hD)).1 (fun e => ?_)).trans (h5 D hD)
      have hm := HDm.out D hD
      rcases hr D e.symm with h | ⟨h, _⟩ <;> omega
    case hix =>
      rintro cd s W W' row ⟨h1, h2, h3, h5⟩ hg hr
      have hs0 := HS0.out
      refine ⟨h1, h2, allC_from (f := fun _ : Unit => [.cells w.heap.size 4 [.bool false], .kept w w.heap.size]) (fun _ => ⟨trivial, by show w.heap.size ≤ W0.heap.size; omega, trivial⟩) (fun _ => ⟨fun e => by injection e with e; omega, fun q e => by injection e with e; omega, trivial⟩) () W W' row h3 hg hr, fun D hD => ?_⟩
      refine (hg.block D (Array.getElem?_eq_some_iff.1 (h5 D hD)).1 (fun e => ?_)).trans (h5 D hD)
      have hm := HDm.out D hD
      rcases hr D e.symm with h | ⟨h, _⟩ <;> omega
    case start =>
      have hs0 := HS0.out
      exact ⟨none, 0, [], ⟨Go.Adm.Own.nil _ _ _ _, H3.out.at_ 4 rfl, H3.out.at_ 6 rfl, ⟨HBW.out, by omega⟩, trivial⟩, rfl, by simp, Nat.le_refl _, fun D hD => (HBW.out.block D (HDm.out D hD).2).trans (HDS.out D hD).2⟩
    case assign =>
      intro l x W K hK
      simp only [pcV]
      gi_wp2
      exact hK
    case body =>
      rintro l pre ⟨⟨Ax, nx, px⟩, hx⟩ W hl ⟨A', c', ws, hI2, hws, hsm, hsz, hDs2⟩ hsp
      have hpr := parts_round hsp
      have hxr : Rd w B 1 Ax nx (px.map bv) := hx
      have hli : l1.length = i := by have := HL1w.out.len; simpa using this
      have hwl := wordsO_len hws
      rw [List.length_map] at hwl
      have hpx : px.length ≤ 262144 := Nat.le_trans hpr.2 (by omega)
      have hwn : ws.length ≤ 262144 := by have := hpr.1; omega
      have hs0 := HS0.out
      have hkW : Below wr.heap.size wr W := (hI2.at_ 3 rfl : Below wr.heap.size wr W ∧ _).1
      have hxW : Rd W B 1 Ax nx (px.map bv) := (hxr.below HK.out hB).below hkW (by omega)
      have hconv := run_conv (P := Tryz.prog) W 36 9 5 el_u8.ht Tryz.underlying5 Tryz.underlying9 (c := nx) hxW
      have hUn := Unword_any ⟨px.toArray⟩ W (by rw [bsize]; omega)
      rw [show bs (⟨px.toArray⟩ : ByteArray) = px from by simp [bs]] at hUn
      have HI2 := Lib.hid hI2
      have HDS2 := Lib.hid hDs2
      have HWS := Lib.hid hws
      have HSM := Lib.hid hsm
      have dep : 1 ≤ 3 - 1 - 1 := by decide
      clear hxW hkW hxr hpr hli hwl hI2 hDs2 hws hsm hsp
      dsimp only
      cases hu : unwordS px with
      | none =>
        rw [hu] at hUn
        have HU := Lib.hid hu
        clear hu
        gi_wp2_with (refine ⟨trivial, ?_⟩; gi_at_call 66; refine (CallsIn.inRound l (callsIn_wide.2 hUn)).mono ?_; clear hUn hconv; rintro e W1 ⟨rfl, hbW1⟩; have hI3 := HI2.out.call hbW1; have f5 : W1.frozen? ⟨w.heap.size, 0, none⟩ = false := Cells.frozen (hI3.at_ 2 rfl) 0; have c5 : W1.cell? ⟨w.heap.size, 0, none⟩ = some (.bool true) := Cells.cell (hI3.at_ 2 rfl) (i := 0) (by simp))
        have hko : KeepsOthers W (W1.setCell ⟨w.heap.size, 0, none⟩ (.bool false)) := (KeepsOthers.of_grownBy (grown_of_below hbW1) (fun j o e _ => by cases e)).trans (.setCell _ _ _)
        have h5 : All W1 [.cells w.heap.size 4 [.bool true], .kept w w.heap.size] := ⟨hI3.at_ 2 rfl, ⟨HK.out.trans ((hI3.at_ 3 rfl : Below wr.heap.size wr W1 ∧ _).1.mono (by omega)), by have := hbW1.size; omega⟩, trivial⟩
        refine ⟨hko.from _, rfl, ?_, h5.store 0 rfl 0 (.bool false) ⟨fun q e => by injection e with e; omega, trivial⟩, fun D hD => hko.same D _ (HDS2.out D hD) rfl⟩
        rw [List.map_append]
        exact wordsO_snoc_none HU.out
      | some u =>
        rw [hu] at hUn
        have HU := Lib.hid hu
        have hul := unwordS_len hu
        clear hu
        gi_wp2_with (first
          | (refine ⟨trivial, ?_⟩; gi_at_call 66; refine (CallsIn.inRound l (callsIn_wide.2 hUn)).mono ?_; clear hUn hconv; rintro e W1 ⟨rfl, hbW1⟩; have hI3 := HI2.out.call hbW1; have HI3 := Lib.hid hI3; have HBW1 := Lib.hid hbW1; have hs1 := hbW1.size; have c9 : W1.cell? ⟨wr.heap.size + 1, 0, none⟩ = some (.slice A' ws.length c') := Cells.cell (hI3.at_ 1 rfl) (i := 0) (by simp); clear hbW1 hI3)
          | (gi_at_builtin; refine wlIn_app el_str rfl (.tmp 38) (.tmp 40) rfl W0.heap.size A' ws.length c' (ws.map sv) rfl (Go.Adm.Own.alloc (HI3.out.at_ 0 rfl) _) (W1.heap.size + 1) _ 1 1 [.string ⟨u.toArray⟩] rfl (Rd.lit W1 _ _ 1 rfl) (by intro u hu; simp only [List.mem_singleton] at hu; subst hu; rfl) (by omega) (by simp; omega) ?_; intro A3 c3 w3 hown3 hg3 hob3; have hm3 := out_more (HI3.out.alloc (.cells #[.string ⟨u.toArray⟩] 9)) (fun g hg _ => ⟨fun e => by injection e with e; omega, fun q e => by injection e with e; omega, trivial⟩) (by omega) hown3 hg3 ⟨fun e => by injection e with e; omega, fun q e => by injection e with e; omega, trivial⟩; have c9 : w3.cell? ⟨wr.heap.size + 1, 0, none⟩ = some (.slice A' ws.length c') := Cells.cell (hm3.1.at_ 1 rfl) (i := 0) (by simp); have f9 : w3.frozen? ⟨wr.heap.size + 1, 0, none⟩ = false := Cells.frozen (hm3.1.at_ 1 rfl) 0))
        have hko : KeepsOthers W (w3.setCell ⟨wr.heap.size + 1, 0, none⟩ (.slice A3 (ws.length + 1) c3)) := ((KeepsOthers.of_grownBy (grown_of_below HBW1.out) (fun j o e _ => by cases e)).trans (.alloc _ _)).trans hm3.2.2
        have hown0 : Go.Adm.Own W1 W0.heap.size 9 1 A' ws.length c' (ws.map sv) := HI3.out.at_ 0 rfl
        have hs3 := hg3.size
        rw [World.size_alloc] at hs3
        refine ⟨hko.from _, (((KpS.quiet (grown_of_below HBW1.out) (by omega)).trans (KpS.quiet (grown_alloc _ _) (by omega))).trans (KpS.step hg3 (by simp; omega) (fun e => by have := (hown0.lt e).1; omega) ?_)).trans (KpS.step (grown_setCell _ _ _) (by omega) (fun e => by injection e with e; dsimp only at e; omega) ⟨fun e => by injection e with e; dsimp only at e; omega, fun e => by injection e with e; dsimp only at e; omega, fun e => by injection e with e; dsimp only at e; omega, fun q e => by injection e with e; dsimp only at e; omega, trivial⟩), ?_⟩
        · cases hq : (Value.slice A' ws.length c').ownBlock with
          | none => exact Apart.none _
          | some g =>
            have hg := (hown0.lt hq).1
            have hs9 := HS0.out
            rw [hs9] at hg
            exact ⟨fun e => by injection e with e; omega, fun e => by injection e with e; omega, fun e => by injection e with e; omega, fun q e => by injection e with e; omega, trivial⟩
        · have hlx : (ws ++ [(⟨u.toArray⟩ : ByteArray)]).length = ws.length + 1 := by simp
          refine ⟨A3, c3, ws ++ [⟨u.toArray⟩], ?_, ?_, ?_, by rw [size_setCell]; omega, fun D hD => hko.same D _ (HDS2.out D hD) rfl⟩
          · rw [hlx, List.map_append]
            exact hm3.2.1
          · rw [List.map_append]
            exact wordsO_snoc HWS.out HU.out
          · intro q hq
            rcases List.mem_append.1 hq with h | h
            · exact HSM.out q h
            · rw [List.mem_singleton] at h
              subst h
              rw [bsize]; omega
    case done =>
      rintro D xs W hDl hxs ⟨A', c', ws, hI2, hws, hsm, hsz, hDs2⟩ hK
      rw [hxs] at hws
      have hs0 := HS0.out
      have hown : Go.Adm.Own W W0.heap.size 9 1 A' ws.length c' (ws.map sv) := hI2.at_ 0 rfl
      have hcap := hown.cap
      have hSt : Strs W W.heap.size A' ws.length ws := ⟨hown.rd, hsm⟩
      have HST := Lib.hid hSt
      have HOWN := Lib.hid hown
      have c9 : W.cell? ⟨wr.heap.size + 1, 0, none⟩ = some (.slice A' ws.length c') := Cells.cell (hI2.at_ 1 rfl) (i := 0) (by simp)
      have f5 : W.frozen? ⟨w.heap.size, 0, none⟩ = false := Cells.frozen (hI2.at_ 2 rfl) 0
      have c5 : W.cell? ⟨w.heap.size, 0, none⟩ = some (.bool true) := Cells.cell (hI2.at_ 2 rfl) (i := 0) (by simp)
      have hkw : Below wr.heap.size wr W := (hI2.at_ 3 rfl : Below wr.heap.size wr W ∧ _).1
      have HKW := Lib.hid hkw
      have HIV : Hid (All W [.nest (w.heap.size + 1) 53 1 Al acc.length cl vs w.heap.size Fn (fun W => All2 (RowS W W.heap.size) vs acc), .cells w.heap.size 4 [.bool true], .kept w w.heap.size]) := Lib.hid (HI.out.call hkw)
      have HD2 : Hid (∀ D' ∈ D :: Ds, w.heap.size ≤ D' ∧ W.heap[D']? = some (.deferred (some []))) := Lib.hid (fun D' hD' => by
        rcases List.mem_cons.1 hD' with rfl | h
        · exact ⟨by omega, hK⟩
        · exact ⟨(HDm.out D' h).1, hDs2 D' h⟩)
      have hnd2 : (D :: Ds).Nodup := List.nodup_cons.2 ⟨fun h => by have := (HDm.out D h).2; omega, hnd⟩
      have HWS := Lib.hid hws
      have HSM := Lib.hid hsm
      have HSZ := Lib.hid hsz
      have hwW : w.heap.size ≤ W.heap.size := by omega
      clear hI2 hws hsm hown hSt hkw hK hDs2 hsz
      have HDS3 : Hid (∀ D' ∈ D :: Ds, w.heap.size ≤ D' ∧ (W.setCell ⟨w.heap.size, 0, none⟩ (.bool false)).heap[D']? = some (.deferred (some []))) := Lib.hid (fun D' hD' => by
        obtain ⟨h1, h2⟩ := HD2.out D' hD'
        refine ⟨h1, (Below.heap_setCell W ⟨w.heap.size, 0, none⟩ (.bool false) D' (fun e => ?_)).trans h2⟩
        have h5 : Cells W w.heap.size 4 [.bool true] := HIV.out.at_ 1 rfl
        unfold Cells at h5
        have h6 : W.heap[w.heap.size]? = some (.deferred (some [])) := by rw [← h2, e]
        rw [h5] at h6
        cases h6)
      have HBF : Hid (Below w.heap.size w (W.setCell ⟨w.heap.size, 0, none⟩ (.bool false))) := Lib.hid (((HIV.out.at_ 2 rfl : Below w.heap.size w W ∧ _).1).grown (grown_setCell _ _ _) (by omega) (fun q e => by injection e with e; dsimp only at e; omega))
      cases fnd with
      | false =>
        have hR2 : Hid (decR b = ([], 2)) := Lib.hid (by
          refine decR_none (by have := HN.out; omega) ?_
          rw [HD.out]
          have e := HF.out rfl
          rw [decO_open (by rw [e]; exact H10.out) (by intro e0; have := HLR.out; rw [e0] at this; simp at this; omega)]
          rfl)
        go_wp2
        refine leaves_cells (B := w.heap.size) (D :: Ds) _ HDS3.out hnd2 (by rw [size_setCell]; omega) ?_
        intro W' hc hb hs
        exact ⟨_, results_tmp2 rfl _ _ _, none, 0, 0, by rw [hR2.out]; rfl, by rw [hR2.out]; exact Lines.nil _ _, by omega, by decide, HBF.out.trans hb⟩
      | true =>
        by_cases he : lineE ws = 0
        · have hlo : lineO l1 = some ws := by unfold lineO; rw [HWS.out]; exact if_pos he
          have HDN : Hid (decO b = (decO r1).map ((acc ++ [ws]) ++ ·)) := Lib.hid (by
            rw [HD.out, (HT.out rfl).1, decO_line H10.out, hlo]
            show ((decO r1).map (ws :: ·)).map (acc ++ ·) = _
            rw [Option.map_map]
            congr 1
            funext x
            simp)
          have HE := Lib.hid he
          have hn2' := (HT.out rfl).2
          clear he hlo
          go_wp2_with (first
            | (go_at_call 67; refine (check_any _ _ _ _ _ _ HST.out (Nat.le_trans hcap.1 hcap.2)).mono ?_; rintro e w' ⟨rfl, rfl⟩; rw [HE.out])
            | (at_builtin; refine wl_app_nestG el_line (HIV.out.alloc _) 0 rfl (.tmp 49) (.tmp 51) rfl (w.heap.size + 1) Al acc.length cl vs w.heap.size Fn _ rfl rfl (W.heap.size + 1) _ 1 1 _ rfl (Rd.lit W _ _ 1 rfl) (by intro u hu; simp only [List.mem_singleton] at hu; subst hu; rfl) (by omega) (by simp; omega) (by omega) (fun b => (Value.slice A' ws.length c').ownBlock = some b) (fun W => RowS W W.heap.size (.slice A' ws.length c') ws) ?_ ?_ ?_ (by intro g hg _; simp [Apart, Res.apart, Low.els] <;> omega) ?_))
          · exact RowS.quiet (grown_alloc _ _) ⟨A', c', rfl, hcap.1, hcap.2, HST.out⟩
          · exact RowS.st (by intro ad' h; subst h; exact .inr rfl)
          · intro b hb'
            have h1 := HOWN.out.lt hb'
            have h2 := (HI.out.at_ 0 rfl : Nest wr (w.heap.size + 1) 53 1 Al acc.length cl vs w.heap.size Fn _).own
            have hs9 := HS0.out
            refine ⟨by omega, by simp; omega, fun e => ?_⟩
            have := h2.lt e
            omega
          · intro A5 c5' w5 hI5 hs5 hg5
            go_wp2
            refine ⟨⟨r1, A2, n2, c2, acc ++ [ws], acc.length + 1, A5, c5', vs ++ [.slice A' ws.length c'], (fun b => Fn b ∨ (Value.slice A' ws.length c').ownBlock = some b), D :: Ds, _, _, _, _, _, _, _, _, _, _, _, _, _, _, _, _, _, _, _, _, _, _, _, _, _, _, _, _, _, by simp, rfl, HDN, by omega, hn2, hcm2, HR1w.out, ?_, ?_, hnd2⟩, ?_⟩
            · exact ⟨Nest.as (hI5.at_ 0 rfl) (fun W' => All2.snoc.symm), hI5.2⟩
            · intro D' hD'
              obtain ⟨q1, q2⟩ := HD2.out D' hD'
              have q3 := (Array.getElem?_eq_some_iff.1 q2).1
              have q4 : (W.alloc (.cells #[.slice A' ws.length c'] 53)).heap[D']? = some (.deferred (some [])) := (Below.heap_alloc W _ D' q3).trans q2
              refine ⟨q1, (hg5.block D' (by simp; omega) (fun e => ?_)).trans q4⟩
              have q5 := Go.Adm.Own.isCells (HIV.out.alloc (.cells #[.slice A' ws.length c'] 53) |>.at_ 0 rfl : Nest _ (w.heap.size + 1) 53 1 Al acc.length cl vs w.heap.size Fn _).own D' _ e.symm q4
              cases q5
            · simp [lenOf]; omega
        · have hR2 : Hid (decR b = ([], 2)) := Lib.hid (by
            refine decR_none (by have := HN.out; omega) ?_
            have hno : lineO l1 = none := by unfold lineO; rw [HWS.out]; exact if_neg he
            rw [HD.out, (HT.out rfl).1, decO_line H10.out, hno]
            rfl)
          have hx : (lineE ws != 0) = true := by simpa using he
          have HE := Lib.hid he
          clear he
          go_wp2_with fail
          refine (check_any _ _ _ _ _ _ HST.out (Nat.le_trans hcap.1 hcap.2)).mono ?_
          rintro e w' ⟨rfl, rfl⟩
          go_wp2
          refine leaves_cells (B := w.heap.size) (D :: Ds) _ HDS3.out hnd2 (by rw [size_setCell]; omega) ?_
          intro W' hc hb hs
          exact ⟨_, results_tmp2 rfl _ _ _, none, 0, 0, by rw [hR2.out]; rfl, by rw [hR2.out]; exact Lines.nil _ _, by omega, by decide, HBF.out.trans hb⟩
    case stop =>
      rintro D cd pre W hDl hsp ⟨rfl, hws, hI2, hDs2⟩ hK
      have hs0 := HS0.out
      have hR2 : Hid (decR b = ([], 2)) := Lib.hid (by
        obtain ⟨t, ht⟩ := hsp
        have hno : lineO l1 = none := by
          unfold lineO
          rw [← ht, wordsO_none hws]
        refine decR_none (by have := HN.out; omega) ?_
        rw [HD.out]
        cases fnd with
        | true => rw [(HT.out rfl).1, decO_line H10.out, hno]; rfl
        | false =>
          have e := HF.out rfl
          rw [decO_open (by rw [e]; exact H10.out) (by intro e0; have := HLR.out; rw [e0] at this; simp at this; omega)]
          rfl)
      have c5 : W.cell? ⟨w.heap.size, 0, none⟩ = some (.bool false) := Cells.cell (hI2.at_ 0 rfl) (i := 0) (by simp)
      have hkw : Below w.heap.size w W := (hI2.at_ 1 rfl : Below w.heap.size w W ∧ _).1
      have HKW := Lib.hid hkw
      have HD2 := Lib.hid hDs2
      have hszw := hkw.size
      clear hkw hI2 hDs2 hws hsp
      gi_wp2
      go_wp2
      refine leaves_cells (B := w.heap.size) (D :: Ds) W ?_ (List.nodup_cons.2 ⟨fun h => by have := (HDm.out D h).2; omega, hnd⟩) hszw ?_
      · intro D' hD'
        rcases List.mem_cons.1 hD' with rfl | h
        · exact ⟨by omega, hK⟩
        · exact ⟨(HDm.out D' h).1, HD2.out D' h⟩
      · intro W' hc hb hs
        exact ⟨_, results_tmp2 rfl _ _ _, none, 0, 0, by rw [hR2.out]; rfl, by rw [hR2.out]; exact Lines.nil _ _, by omega, by decide, HKW.out.trans hb⟩
  · have d2 : decide ((0 : Int) < (nr : Int)) = false := by simp; omega
    have hdone : Hid (decO b = some acc) := Lib.hid (by
      have h0 : r = [] := List.eq_nil_of_length_eq_zero (by have := HLR.out; omega)
      rw [HD.out, h0, decO_nil]
      simp)
    have c5 : wr.cell? ⟨w.heap.size, 0, none⟩ = some (.bool true) := Cells.cell (hI.at_ 1 rfl) (i := 0) (by simp)
    have hk : Below w.heap.size w wr := (hI.at_ 2 rfl : Below w.heap.size w wr ∧ _).1
    have hb2 : ¬ 262144 < b.length := by have := HN.out; omega
    have HB2 := Lib.hid hb2
    have HK := Lib.hid hk
    have hsz := hk.size
    clear hrd hI hDs hk hb2
    by_cases hm : 1000 < acc.length
    · have d3 : decide ((1000 : Int) < (acc.length : Int)) = true := by simp; omega
      have hR2 : Hid (decR b = ([], 2)) := Lib.hid (decR_many HB2.out hdone.out hm)
      go_wp2
      refine leaves_cells (B := w.heap.size) Ds wr HDS.out hnd hsz ?_
      intro W' hc hb hs
      exact ⟨_, results_tmp2 rfl _ _ _, none, 0, 0, by rw [hR2.out]; rfl, by rw [hR2.out]; exact Lines.nil _ _, by omega, by decide, HK.out.trans hb⟩
    · have d3 : decide ((1000 : Int) < (acc.length : Int)) = false := by simp; omega
      have hR2 : Hid (decR b = (acc, 0)) := Lib.hid (by unfold decR; rw [if_neg HB2.out, hdone.out]; exact if_neg hm)
      go_wp2
      have hN := (HI.out.at_ 0 rfl : Nest wr (w.heap.size + 1) 53 1 Al acc.length cl vs w.heap.size Fn _)
      have hcap := hN.own.cap
      have hLn : Lines wr wr.heap.size Al acc.length acc := RowS.lines hN.own.rd hN.inn (by omega)
      refine leaves_cells (B := w.heap.size) Ds wr HDS.out hnd hsz ?_
      intro W' hc hb hs
      exact ⟨_, results_tmp2 rfl _ _ _, Al, acc.length, cl, by rw [hR2.out]; rfl, by rw [hR2.out, hs]; exact hLn.keep (fun p _ => hc p), hcap.1, hcap.2, HK.out.trans hb⟩
theorem Decode_any (w : World) (B : Nat) (A : Option Addr) (n c : Nat) (b : List UInt8) (hb : Rd w B 1 A n (b.map bv)) (hnc : n ≤ c) (hcm : c ≤ maxLen) (hB : B ≤ w.heap.size) :
    Calls Tryz.prog 49 #[.slice A n c] w (DecPost b w) := by
  by_cases h : 262144 < n
  · exact Decode_long w B A n c b hb h
  · exact Decode_good w B A n c b hb hnc hcm hB (by omega)
end Go.Proofs.YtkcmaembpfakdaaGreatDoor

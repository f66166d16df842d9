/- The reference's Decode. -/
import Derived.Test.YtkcmaembpfakdaaGreatDoorDec3
import Derived.Test.YtkcmaembpfakdaaGreatDoorDecT
import Derived.Test.YtkcmaembpfakdaaGreatDoorDecH
import Derived.Test.YtkcmaembpfakdaaGreatDoorNumF
import Derived.Test.YtkcmaembpfakdaaGreatDoorDoc9
set_option linter.unusedSimpArgs false
set_option linter.unusedVariables false
set_option maxRecDepth 100000
namespace Go.Adm
open Go Go.RowKit
def byl (p : ByteArray) : List UInt8 := p.data.toList
theorem rowsO_snoc {l : List ByteArray} {p : ByteArray} {acc : List (List ByteArray)} {ws : List ByteArray} (h : rowsO (l.map byl) = some acc) (hw : wordsO (splitB 32 (byl p)) = some ws) : rowsO ((l ++ [p]).map byl) = some (acc ++ [ws]) := by
  have e : rowsO [byl p] = some [ws] := by rw [rowsO, hw]; rfl
  rw [List.map_append, rowsO_app, h]
  show Option.bind (some acc) (fun x => (rowsO [byl p]).map (x ++ ·)) = _
  rw [e]; rfl
theorem rowsO_stop {l t : List ByteArray} {p : ByteArray} (hw : wordsO (splitB 32 (byl p)) = none) : rowsO ((l ++ p :: t).map byl) = none := by
  have e : rowsO (byl p :: t.map byl) = none := by rw [rowsO, hw]
  rw [List.map_append, rowsO_app, List.map_cons, e]
  cases rowsO (l.map byl) <;> rfl
theorem wordsO_stop {l t : List (List UInt8)} {p : List UInt8} (h : unwordS p = none) : wordsO (l ++ p :: t) = none := by
  have e : wordsO (p :: t) = none := by rw [wordsO, h]
  rw [wordsO_app, e]
  cases wordsO l <;> rfl
theorem split_small {c : UInt8} {l : List UInt8} {ss : List ByteArray} (h : ss.map byl = splitB c l) : ss.length ≤ l.length + 1 ∧ ∀ s ∈ ss, s.size ≤ l.length := by
  have h1 := splitB_sum c l
  have h2 := congrArg List.length h
  rw [List.length_map] at h2
  refine ⟨by omega, fun s hs => ?_⟩
  have h3 := splitB_small (c := c) (l := l) (p := byl s) (by rw [← h]; exact List.mem_map.2 ⟨s, hs, rfl⟩)
  have h4 := Lib.size_eq s
  unfold byl at h3
  omega
end Go.Adm
namespace Go.Proofs.YtkcmaembpfakdaaGreatDoor
open Go Go.RowKit Go.Adm Go.Shelf

theorem Split1 (s : ByteArray) (c : UInt8) (m : Int) (w : World) (hs : s.size < 4294967281) (hm : w.cell? ⟨0, 0, none⟩ = some (.int .i64 m)) :
    Calls Tryz.prog 55 #[.string s, .string ⟨#[c]⟩] w fun e w' => ∃ ss : List ByteArray, ss.map byl = splitB c (byl s) ∧ e = .returned (.slice (some ⟨w.heap.size, 0, none⟩) ss.length ss.length) ∧ w' = w.alloc (.cells (ss.map sv).toArray 9) := by
  refine (Any.strings_Split Go.Proofs.Tryz.lays146 (by kernel_rfl) s ⟨#[c]⟩ m w hs hm (by show 1 ≤ (#[c] : Array UInt8).size; simp)).mono ?_
  rintro e w' ⟨rfl, rfl⟩
  have hl : (Lib.splitB ⟨#[c]⟩ 0 (Lib.countB s ⟨#[c]⟩) s).length = Lib.countB s ⟨#[c]⟩ + 1 := Lib.splitB_all ⟨#[c]⟩ (by show 1 ≤ (#[c] : Array UInt8).size; simp) 0 _ s rfl
  exact ⟨_, splitB_shelf c s, by rw [hl], rfl⟩
set_option maxHeartbeats 6400000 in
theorem refDecode_any (w : World) (m : Int) (hm : w.cell? ⟨0, 0, none⟩ = some (.int .i64 m)) (hgm : 0 < w.heap.size) (B : Nat) (A : Option Addr) (n c : Nat) (b : List UInt8) (hb : Rd w B 1 A n (b.map bv)) (hnc : n ≤ c) (hcm : c ≤ maxLen) (hB : B ≤ w.heap.size) :
    Calls Tryz.prog 35 #[.slice A n c] w (DecPost b w) := by
  have hcm' : c ≤ 9223372036854775807 := hcm
  have hl : b.length = n := by have := hb.len; simpa using this
  have HM := Lib.hid hm
  by_cases hL : 262144 < n
  · have hR : Hid (decR b = ([], 3)) := Lib.hid (decR_long (by omega))
    have d1 : decide ((262144 : Int) < (n : Int)) = true := by simp; omega
    clear hb hl hm
    go_enter Tryz.func35, Tryz.ntmps35
    go_wp2_with fail
    go_ret2
    exact ⟨none, 0, 0, by rw [hR.out]; rfl, by rw [hR.out]; exact Lines.nil _ _, by omega, by decide, Below.refl _ _⟩
  have d1 : decide ((262144 : Int) < (n : Int)) = false := by simp; omega
  rcases List.eq_nil_or_concat b with hb0 | ⟨b1, x, hbx⟩
  · have hn0 : n = 0 := by rw [← hl, hb0]; rfl
    subst hn0
    have hR : Hid (decR b = ([], 0)) := Lib.hid (by rw [hb0]; rfl)
    clear hb hl hm hb0
    go_enter Tryz.func35, Tryz.ntmps35
    go_wp2_with fail
    go_ret2
    exact ⟨none, 0, 0, by rw [hR.out]; rfl, by rw [hR.out]; exact Lines.nil _ _, by omega, by decide, Below.refl _ _⟩
  have hbx' : b = b1 ++ [x] := by rw [hbx, List.concat_eq_append]
  obtain ⟨q, hq⟩ : ∃ q, b1.length = q := ⟨_, rfl⟩
  have hn1 : n = q + 1 := by rw [← hl, hbx', ← hq]; simp
  obtain ⟨ad, u, rfl, hadB, hu, hcell⟩ := hb.cell (k := q) (by omega)
  have hu2 : u = bv x := by
    rw [hbx', ← hq, List.map_append, List.getElem?_append_right (by simp)] at hu
    simp at hu
    exact hu.symm
  subst hu2
  have hcx : w.cell? (ad.add q) = some (.int .u8 x.toNat) := hcell
  have hrd1 : Rd w B 1 (some ad) q (b1.map bv) := by
    have h1 := hb.take (k := q) (by omega)
    rw [hbx', ← hq, List.map_append, Nat.mul_one, List.take_left' (by simp)] at h1
    rw [← hq]
    exact h1
  have d2 : ((n : Int) == 0) = false := by
    rw [beq_eq_false_iff_ne]; omega
  have w1 : IntKind.i64.wrap ((n : Int) - 1) = (q : Int) := by rw [IntWalk.i64_in _ (by omega)]; omega
  have i0 : (0 : Int) ≤ (q : Int) := by omega
  have i1 : (q : Int) < (n : Int) := by omega
  have i3 : (q : Int) ≤ (c : Int) := by omega
  have i2 : ((q : Int)).toNat = q := by omega
  have HB := Lib.hid hbx'
  have HRD := Lib.hid hrd1
  have hb1 : q < 262144 := by omega
  have HQ := Lib.hid hq
  have hqn : q < n := by omega
  by_cases hx : x = 10
  · subst hx
    have hconv := run_conv (P := Tryz.prog) w 36 9 5 el_u8.ht Tryz.underlying5 Tryz.underlying9 (c := c) hrd1
    have hsp := Split1 ⟨b1.toArray⟩ 10 m w (by rw [bsize]; omega) hm
    have HLONG : Hid (¬ 262144 < (b1 ++ [10]).length) := Lib.hid (by rw [← hbx', hl]; exact hL)
    clear hn1 hq hb hl hm hbx hbx' hcell hu hrd1
    go_enter Tryz.func35, Tryz.ntmps35
    go_wp2_with (go_at_call 55; refine hsp.mono ?_; clear hsp hconv hcx; rintro e w2 ⟨ss, hss, rfl, rfl⟩)
    have hss' : ss.map byl = splitB 10 b1 := by simpa [byl] using hss
    have hsb := split_small hss'
    have HSS := Lib.hid hss'
    have hsl : ss.length ≤ 262145 := by have := hsb.1; have := HQ.out; omega
    have HSZ : Hid (∀ s ∈ ss, s.size ≤ 262144) := Lib.hid (fun s hs => by have := hsb.2 s hs; have := HQ.out; omega)
    have hR0 : All w [.kept w w.heap.size] := ⟨⟨Below.refl _ _, Nat.le_refl _⟩, trivial⟩
    have hR1 := hR0.new (l := ss.map sv) (ss.map sv).toArray 9 rfl (by simp)
    clear hss hss' hsb hR0
    refine wp_gen hR1 ?_
    intro wa hR1
    clear d1 d2 w1 i0 i1 i2 i3
    go_loopw [5, 6] (fun v i wr => ∃ (k : Nat) (A' : Option Addr) (c' : Nat) (vs : List Value) (F : Nat → Prop) (acc : List (List ByteArray)), k ≤ ss.length ∧ i = .int .i64 k ∧ v = .slice A' k c' ∧ Hid (rowsO ((ss.take k).map byl) = some acc) ∧ All wr [.nest (w.heap.size + 1) 53 1 A' k c' vs w.heap.size F (fun W => All2 (RowS W W.heap.size) vs acc), .cells w.heap.size 9 (ss.map sv), .kept w w.heap.size]) (fun _ i _ => ss.length - (intOf i).toNat)
    case atStart => exact ⟨0, none, 0, [], fun _ => False, [], by omega, rfl, rfl, Lib.hid rfl, ⟨Nest.start (fun _ => .nil), hR1⟩⟩
    case round =>
      obtain ⟨k, A', c', vs, F, acc, hk, rfl, rfl, HA, hI⟩ := hrel
      have hkp : Below w.heap.size w wr := (hI.at_ 2 rfl : Below w.heap.size w wr ∧ _).1
      have hmr : wr.cell? ⟨0, 0, none⟩ = some (.int .i64 m) := (hkp.cell hgm).trans HM.out
      have hswr : w.heap.size < wr.heap.size := Cells.lt (hI.at_ 1 rfl)
      have HKP := Lib.hid hkp
      have HI := Lib.hid hI
      by_cases hlt : k < ss.length
      · have d3 : decide ((k : Int) < (ss.length : Int)) = true := by simp; omega
        have hc1 : wr.cell? ⟨w.heap.size, k, none⟩ = some (.string ss[k]) := by
          have := Cells.cell (hI.at_ 1 rfl) (i := k) (by simpa using hlt)
          rwa [List.getElem_map] at this
        have HZ : Hid (ss[k].size ≤ 262144) := Lib.hid (HSZ.out _ (List.getElem_mem hlt))
        have HT : Hid (ss.take (k + 1) = ss.take k ++ [ss[k]]) := Lib.hid (List.take_succ_eq_append_getElem hlt)
        have HDr : Hid (ss = ss.take k ++ ss[k] :: ss.drop (k + 1)) := Lib.hid (by rw [← List.drop_eq_getElem_cons hlt, List.take_append_drop])
        generalize ss[k] = row at *
        have hsp2 := Split1 row 32 m wr (by have := HZ.out; omega) hmr
        clear hmr hkp hI
        go_wp2_with (go_at_call 55; refine hsp2.mono ?_; clear hsp2 hc1; rintro e w2 ⟨ps, hps, rfl, rfl⟩)
        obtain ⟨wo, hwo⟩ : ∃ wo : World, wo = wr := ⟨_, rfl⟩
        subst hwo
        have hsb2 := split_small hps
        have hpl : ps.length ≤ 262145 := by have h1 := hsb2.1; have h2 := HZ.out; have h3 := Lib.size_eq row; unfold byl at h1; omega
        have HPZ : Hid (∀ s ∈ ps, s.size ≤ 262144) := Lib.hid (fun s hs => by have h1 := hsb2.2 s hs; have h2 := HZ.out; have h3 := Lib.size_eq row; unfold byl at h1; omega)
        have HPS := Lib.hid hps
        have hJ0 : All wo [.kept wo wo.heap.size] := ⟨⟨Below.refl _ _, Nat.le_refl _⟩, trivial⟩
        have hJ1 := hJ0.new (l := ps.map sv) (ps.map sv).toArray 9 rfl (by simp)
        clear hps hsb2 hJ0 d3
        refine wp_gen hJ1 ?_
        intro wb hJ1
        go_loopw [8, 9] (fun v i wr => ∃ (j : Nat) (Aw : Option Addr) (cw : Nat) (ws : List ByteArray), j ≤ ps.length ∧ i = .int .i64 j ∧ v = .slice Aw j cw ∧ Hid (ws.length = j) ∧ Hid (wordsO ((ps.take j).map byl) = some ws) ∧ Hid (∀ s ∈ ws, s.size ≤ 140737488355328) ∧ All wr [.own (wo.heap.size + 1) 9 1 Aw j cw (ws.map sv), .cells wo.heap.size 9 (ps.map sv), .kept wo wo.heap.size]) (fun _ i _ => ps.length - (intOf i).toNat)
        case atStart => exact ⟨0, none, 0, [], by omega, rfl, rfl, Lib.hid rfl, Lib.hid rfl, Lib.hid (by simp), ⟨Go.Adm.Own.nil _ _ _ _, hJ1⟩⟩
        case round =>
          obtain ⟨j, Aw, cw, ws, hj, rfl, rfl, HWL, HW, HWZ, hJ⟩ := hrel
          have hswo : wo.heap.size < wr.heap.size := Cells.lt (hJ.at_ 1 rfl)
          by_cases hlj : j < ps.length
          · have d4 : decide ((j : Int) < (ps.length : Int)) = true := by simp; omega
            have hc2 : wr.cell? ⟨wo.heap.size, j, none⟩ = some (.string ps[j]) := by
              have := Cells.cell (hJ.at_ 1 rfl) (i := j) (by simpa using hlj)
              rwa [List.getElem_map] at this
            have HPj : Hid (ps[j].size ≤ 262144) := Lib.hid (HPZ.out _ (List.getElem_mem hlj))
            have HTj : Hid (ps.take (j + 1) = ps.take j ++ [ps[j]]) := Lib.hid (List.take_succ_eq_append_getElem hlj)
            have HDj : Hid (ps = ps.take j ++ ps[j] :: ps.drop (j + 1)) := Lib.hid (by rw [← List.drop_eq_getElem_cons hlj, List.take_append_drop])
            generalize ps[j] = pt at *
            have hUn := refUnword_any pt wr (by have := HPj.out; omega)
            rw [show bs pt = byl pt from by simp [bs, byl, ByteArray.toList_eq]] at hUn
            have HJ := Lib.hid hJ
            clear hJ
            cases hu : unwordS (byl pt) with
            | none =>
              rw [hu] at hUn
              have hdec : Hid (decR b = ([], 2)) := Lib.hid (by
                have h1 : wordsO (splitB 32 (byl row)) = none := by
                  rw [← HPS.out, HDj.out, List.map_append, List.map_cons]
                  exact wordsO_stop hu
                have h2 : rowsO (splitB 10 b1) = none := by
                  rw [← HSS.out, HDr.out]
                  exact rowsO_stop h1
                rw [HB.out]
                exact decR_rowsNone HLONG.out h2)
              clear hu
              go_wp2_with (go_at_call 56; refine hUn.mono ?_; clear hUn hc2; rintro e w5 ⟨rfl, hb5⟩)
              go_ret2
              have hbo : Below wo.heap.size wo w5 := ((HJ.out.at_ 2 rfl : Below wo.heap.size wo wr ∧ _).1).trans (hb5.mono (by omega))
              exact ⟨none, 0, 0, by rw [hdec.out]; rfl, by rw [hdec.out]; exact Lines.nil _ _, by omega, by decide, HKP.out.trans (hbo.mono (by omega))⟩
            | some u =>
              rw [hu] at hUn
              have HU := Lib.hid hu
              have hul := unwordS_len hu
              have hul2 : u.length ≤ 262144 := by have h2 := HPj.out; have h3 := Lib.size_eq pt; unfold byl at hul; omega
              clear hu hul
              go_wp2_with (first
                | (go_at_call 56; refine hUn.mono ?_; clear hUn hc2; rintro e w5 ⟨rfl, hb5⟩; have hJ5 := HJ.out.call hb5; have hs5 := hb5.size; have HJ5 := Lib.hid hJ5; clear hJ5 hb5)
                | (at_builtin; refine wl_app_at el_str (HJ5.out.alloc _) 0 rfl (.tmp 61) (.tmp 63) rfl (wo.heap.size + 1) _ _ _ _ rfl rfl (w5.heap.size + 1) _ 1 1 [.string ⟨u.toArray⟩] rfl (Rd.lit w5 _ _ 1 rfl) (by intro q hq; simp only [List.mem_singleton] at hq; subst hq; rfl) (by omega) (by simp; omega) (by intro g hg h; simp [Apart, Res.apart] <;> omega) ?_; intro A7 c7 w7 hJ7 hs7))
              refine ⟨⟨j + 1, A7, c7, ws ++ [⟨u.toArray⟩], by omega, by go_num, rfl, Lib.hid (by rw [List.length_append, HWL.out]; rfl), ?_, ?_, ?_⟩, by simp [intOf]; omega⟩
              · refine Lib.hid ?_
                rw [HTj.out, List.map_append, wordsO_app, HW.out]
                show Option.bind (some ws) (fun x => (wordsO [byl pt]).map (x ++ ·)) = _
                rw [wordsO, HU.out]
                rfl
              · refine Lib.hid (fun q hq => ?_)
                rcases List.mem_append.1 hq with h | h
                · exact HWZ.out q h
                · rw [List.mem_singleton] at h
                  subst h
                  rw [bsize]; omega
              · rw [List.map_append]
                exact hJ7
          · have d4 : decide ((j : Int) < (ps.length : Int)) = false := by simp; omega
            have HJ := Lib.hid hJ
            have hIn : Hid (All wr [.nest (w.heap.size + 1) 53 1 A' k c' vs w.heap.size F (fun W => All2 (RowS W W.heap.size) vs acc), .cells w.heap.size 9 (ss.map sv), .kept w w.heap.size]) := Lib.hid (HI.out.call (hJ.at_ 2 rfl : Below wo.heap.size wo wr ∧ _).1)
            have hown : Go.Adm.Own wr (wo.heap.size + 1) 9 1 Aw j cw (ws.map sv) := hJ.at_ 0 rfl
            have HOWN := Lib.hid hown
            have hcap := hown.cap
            have hRow : Hid (RowS wr wr.heap.size (.slice Aw j cw) ws) := Lib.hid ⟨Aw, cw, by rw [HWL.out], by rw [HWL.out]; exact hcap.1, hcap.2, by rw [HWL.out]; exact ⟨hown.rd, HWZ.out⟩⟩
            have hrows : Hid (rowsO ((ss.take (k + 1)).map byl) = some (acc ++ [ws])) := Lib.hid (by
              rw [HT.out]
              refine rowsO_snoc HA.out ?_
              rw [← HPS.out, ← List.take_of_length_le (show ps.length ≤ j by omega)]
              exact HW.out)
            clear hJ hown
            go_wp2_with (at_builtin; refine wl_app_nest el_line (hIn.out.alloc _) 0 rfl (.tmp 65) (.tmp 67) rfl (w.heap.size + 1) A' k c' vs w.heap.size F _ rfl rfl (wr.heap.size + 1) _ 1 1 _ rfl (Rd.lit wr _ _ 1 rfl) (by intro u hu; simp only [List.mem_singleton] at hu; subst hu; rfl) (by omega) (by simp; omega) (by omega) (fun b => (Value.slice Aw j cw).ownBlock = some b) (fun W => RowS W W.heap.size (.slice Aw j cw) ws) ?_ ?_ ?_ (by intro g hg _; simp [Apart, Res.apart, Low.els] <;> omega) ?_)
            · exact RowS.quiet (grown_alloc _ _) hRow.out
            · exact RowS.st (by intro ad' h; subst h; exact .inr rfl)
            · intro b9 hb9
              have h1 := HOWN.out.lt hb9
              have h2 := (HI.out.at_ 0 rfl : Nest wo (w.heap.size + 1) 53 1 A' k c' vs w.heap.size F _).own
              refine ⟨by omega, by simp; omega, fun e => ?_⟩
              have := h2.lt e
              omega
            · intro A5 c5' w5 hI5 hs5
              go_wp2
              refine ⟨⟨k + 1, A5, c5', vs ++ [.slice Aw j cw], (fun b => F b ∨ (Value.slice Aw j cw).ownBlock = some b), acc ++ [ws], by omega, by go_num, rfl, hrows, ?_⟩, by simp [intOf]; omega⟩
              exact ⟨Nest.as (hI5.at_ 0 rfl) (fun W' => All2.snoc.symm), hI5.2⟩
      · have d3 : decide ((k : Int) < (ss.length : Int)) = false := by simp; omega
        have hN := (hI.at_ 0 rfl : Nest wr (w.heap.size + 1) 53 1 A' k c' vs w.heap.size F _)
        have hcap := hN.own.cap
        have hal := hN.own.rd.len
        have hLn : Lines wr wr.heap.size A' k acc := RowS.lines hN.own.rd hN.inn (by omega)
        have HLN := Lib.hid hLn
        have hfin : Hid (decR b = if docE acc = 0 then (acc, 0) else ([], 2)) := Lib.hid (by
          rw [HB.out]
          refine decR_rows HLONG.out ?_
          rw [← HSS.out, ← HA.out, List.take_of_length_le (by omega)])
        clear hI hkp hmr hN hLn
        go_wp2_with fail
        refine (refEncode_any wr wr.heap.size A' k c' acc HLN.out (Nat.le_refl _)).mono ?_
        rintro e w6 ⟨A6, m6, c6, rfl, hb6, hy6, hn6⟩
        have hB6 : Below w.heap.size w w6 := HKP.out.trans (hb6.mono (by omega))
        have HL6 : Hid (Lines w6 w6.heap.size A' k acc) := Lib.hid ((HLN.out.below hb6 (Nat.le_refl _)).mono hb6.size)
        clear hy6 hn6 hb6
        by_cases hd : docE acc = 0
        · have hR : Hid (decR b = (acc, 0)) := Lib.hid (by rw [hfin.out, if_pos hd])
          rw [hd]
          clear hd
          go_wp2_with fail
          go_ret2
          exact ⟨A', k, c', by rw [hR.out]; rfl, by rw [hR.out]; exact HL6.out, hcap.1, hcap.2, hB6⟩
        · have hR : Hid (decR b = ([], 2)) := Lib.hid (by rw [hfin.out, if_neg hd])
          have hdn : (docE acc != 0) = true := by simpa using hd
          clear hd
          go_wp2_with fail
          go_ret2
          exact ⟨none, 0, 0, by rw [hR.out]; rfl, by rw [hR.out]; exact Lines.nil _ _, by omega, by decide, hB6⟩
  · have hR : Hid (decR b = ([], 2)) := Lib.hid (decR_none (by omega) (by rw [hbx']; exact decO_bad hx))
    have hne : ((x.toNat : Int) != 10) = true := by
      rw [bne_iff_ne]
      intro e
      have e2 : x.toNat = (10 : UInt8).toNat := by show x.toNat = 10; omega
      exact hx (UInt8.toNat_inj.1 e2)
    clear hn1 hq hb hl hm hbx hbx' hcell hu hrd1
    go_enter Tryz.func35, Tryz.ntmps35
    go_wp2_with fail
    go_ret2
    exact ⟨none, 0, 0, by rw [hR.out]; rfl, by rw [hR.out]; exact Lines.nil _ _, by omega, by decide, Below.refl _ _⟩
end Go.Proofs.YtkcmaembpfakdaaGreatDoor

/- The law StoreSweepsAgain. -/
import Derived.Test.YtkcmaembpfakdaaGreatDoorAgnP
import Derived.Test.YtkcmaembpfakdaaGreatDoorSameD
import Derived.Test.YtkcmaembpfakdaaGreatDoorSwpA
import Derived.Test.YtkcmaembpfakdaaGreatDoorCloR
import Derived.Test.YtkcmaembpfakdaaGreatDoorOpenV
set_option linter.unusedSimpArgs false
set_option linter.unusedVariables false
set_option maxRecDepth 100000
namespace Go.Adm
open Go Go.RowKit
theorem own_digsA {w : World} {base n c : Nat} {t : TypeId} {A : Option Addr} {ds : List (List UInt8)} (h : Go.Adm.Own w base t 32 A n c (dvs ds).flatten) (h32 : ∀ d ∈ ds, d.length = 32) (hl : ds.length = n) : Digs w w.heap.size A n ds := by
  refine ⟨Els.of h (fun e he => ?_) (by rw [dvs_len]; exact hl), h32, hl⟩
  obtain ⟨x, hx, rfl⟩ := List.mem_map.1 he
  rw [List.length_map]; exact h32 x hx
/-- what the laws take from a filled store -/
structure FilOk (l : List Bl) (ds : List (List UInt8)) : Prop where
  val : validB l = true
  big : ∀ x ∈ l, x.n ≤ 140737488355000
  few : l.length ≤ 12
  d32 : ∀ d ∈ ds, d.length = 32
  keys : ∀ d ∈ ds, d ∈ l.map Bl.d
  lnk : ∀ x ∈ l, ∀ e ∈ linksB x.b, e ∈ ds
theorem fil_ok {w : World} {B n : Nat} {A : Option Addr} {l : List Bl} {cs ds : List (List UInt8)} (hb : Blobs w B A n l) (hi : InvP cs (l.map pr)) (hcl : cs.length ≤ 12) (hc : ∀ c ∈ cs, c.length ≤ 262144) (hd : ds = cs.map shaS) (hL : LkIn cs ds) : FilOk l ds := by
  have hv := inv_valid hb hi (by omega) hc
  refine ⟨hv, fun x hx => by have := validB_each hv x hx; omega, ?_, fun d h => ?_, fil_keys hi hd, fil_links hi hL⟩
  · have := hi.len
    rw [List.length_map] at this
    omega
  · rw [hd] at h
    obtain ⟨c, _, rfl⟩ := List.mem_map.1 h
    exact shaS_len c
end Go.Adm
namespace Go.Proofs.YtkcmaembpfakdaaGreatDoor
open Go Go.RowKit Go.Adm
set_option maxHeartbeats 12800000 in
theorem walkAgain (w : World) (m : Int) (hm : w.cell? ⟨0, 0, none⟩ = some (.int .i64 m)) (B : Nat) (A : Option Addr) (n cc : Nat) (rows : List (List Int)) (hl : IRows w B A n rows) (hB : B ≤ w.heap.size) (hn : n ≤ 140737488351232) (hri : ∀ r ∈ rows, IntB r) (Af : Option Addr) (cf : Nat) (zs : List Int) (hf : Rd w B 1 Af zs.length (zs.map iz)) (hzs : IntB zs) :
    Calls Tryz.prog 5 #[.slice A n cc, .slice Af zs.length cf] w fun e w' => e = .returned (.bool true) ∧ Below w.heap.size w w' := by
  have hgm : 0 < w.heap.size := World.block_lt_of_cell? w _ hm
  have h0 : 0 < w.heap.size := by omega
  have HM : Hid (∀ W, Below w.heap.size w W → W.cell? ⟨0, 0, none⟩ = some (.int .i64 m)) := Lib.hid (fun W hb => (hb.cell hgm).trans hm)
  have hR : All w [.low (.rd B 1 Af zs.length (zs.map iz)), .kept w w.heap.size] := ⟨⟨hf, hB⟩, ⟨Below.refl _ _, Nat.le_refl _⟩, trivial⟩
  have HZ := Lib.hid hzs
  have hfi := filled_any w B A n cc rows hl hB (by omega) (fun r hr => (hri r hr).2) (fun r hr => by have := (hri r hr).1; omega)
  clear hl hri hf hzs hm hgm
  go_enter Tryz.func5, Tryz.ntmps5
  go_upto_region 2 with (go_at_call 8; refine hfi.mono ?_; clear hfi; rintro e w1 ⟨As, ns, cs, l, Aa, na, ca, ds, cts, rfl, hbl, hdg, hnc, hcm, hnca, hcma, hiv, hcl, hc26, hds, hb1, hlk⟩; have hI1 := hR.call hb1)
  have hfo := fil_ok hbl hiv hcl hc26 hds hlk
  have HFO := Lib.hid hfo
  have hns : ns ≤ 12 := by rw [← hbl.len]; exact hfo.few
  have hna : na ≤ 12 := by rw [← hdg.len, hds, List.length_map]; exact hcl
  have HNA := Lib.hid hdg.len
  obtain ⟨b1, hb1e⟩ : ∃ b, b = w1.heap.size := ⟨_, rfl⟩
  have hBb : B ≤ b1 := by rw [hb1e]; exact Nat.le_trans hB hb1.size
  have hwb : w.heap.size ≤ b1 := by rw [hb1e]; exact hb1.size
  have hI : All w1 [.own b1 32 32 none 0 0 (dvs []).flatten, .low (.blobs b1 As ns l), .low (.digs b1 Aa na ds), .low (.rd B 1 Af zs.length (zs.map iz)), .kept w w.heap.size] := ⟨Go.Adm.Own.nil _ _ _ _, ⟨by rw [hb1e]; exact hbl, by show b1 ≤ w1.heap.size; omega⟩, ⟨by rw [hb1e]; exact hdg, by show b1 ≤ w1.heap.size; omega⟩, hI1⟩
  clear hfo hbl hdg hiv hcl hc26 hds hb1 hlk hI1 hR hb1e hcm hcma
  go_wp2_with fail
  go_loopw [7, 8] (fun v iv wr => ∃ (i : Nat) (Ar : Option Addr) (cr : Nat) (rs : List (List UInt8)), i ≤ 5 ∧ iv = .int .i64 i ∧ v = .slice Ar i cr ∧ Hid (rs.length = i ∧ ∀ d ∈ rs, d ∈ ds) ∧ All wr [.own b1 32 32 Ar i cr (dvs rs).flatten, .low (.blobs b1 As ns l), .low (.digs b1 Aa na ds), .low (.rd B 1 Af zs.length (zs.map iz)), .kept w w.heap.size]) (fun _ iv _ => 5 - (intOf iv).toNat)
  case atStart => exact ⟨0, none, 0, [], by omega, rfl, rfl, Lib.hid ⟨rfl, fun d hd => by cases hd⟩, hI⟩
  case round =>
    clear hI
    obtain ⟨i, Ar, cr, rs, hi, rfl, rfl, HRS, hI⟩ := hrel
    go_upto_region 4 with (fail)
    obtain ⟨tb, htb⟩ : ∃ tb : Bool, decide (i < zs.length ∧ i < 5 ∧ 0 < na) = tb := ⟨_, rfl⟩
    have HTB := Lib.hid htb
    clear htb
    go_cut [34] (fun t wx => t = .bool tb ∧ wx = wr)
    case first =>
      by_cases hc1 : i < zs.length
      · have e1 : decide ((i : Int) < (zs.length : Int)) = true := by simp; omega
        have e1' : decide (i < zs.length) = true := by simp; omega
        by_cases hc2 : i < 5
        · have e2 : decide ((i : Int) < 5) = true := by simp; omega
          have e2' : decide (i < 5) = true := by simp; omega
          by_cases hc3 : 0 < na
          · have e3 : decide (0 < (na : Int)) = true := by simp; omega
            have e3' : decide (0 < na) = true := by simp; omega
            have e4 : decide (i < zs.length ∧ i < 5 ∧ 0 < na) = true := decide_eq_true ⟨hc1, hc2, hc3⟩
            clear hc1 hc2 hc3
            go_wp2_with fail
            go_meet
            exact ⟨by rw [← HTB.out, e4], rfl⟩
          · have e3 : decide (0 < (na : Int)) = false := by simp; omega
            have e3' : decide (0 < na) = false := by simp; omega
            have e4 : decide (i < zs.length ∧ i < 5 ∧ 0 < na) = false := decide_eq_false (fun h => hc3 h.2.2)
            clear hc1 hc2 hc3
            go_wp2_with fail
            go_meet
            exact ⟨by rw [← HTB.out, e4], rfl⟩
        · have e2 : decide ((i : Int) < 5) = false := by simp; omega
          have e2' : decide (i < 5) = false := by simp; omega
          have e4 : decide (i < zs.length ∧ i < 5 ∧ 0 < na) = false := decide_eq_false (fun h => hc2 h.2.1)
          clear hc1 hc2
          go_wp2_with fail
          go_meet
          exact ⟨by rw [← HTB.out, e4], rfl⟩
      · have e1 : decide ((i : Int) < (zs.length : Int)) = false := by simp; omega
        have e1' : decide (i < zs.length) = false := by simp; omega
        have e4 : decide (i < zs.length ∧ i < 5 ∧ 0 < na) = false := decide_eq_false (fun h => hc1 h.1)
        clear hc1
        go_wp2_with fail
        go_meet
        exact ⟨by rw [← HTB.out, e4], rfl⟩
    case rest =>
      obtain ⟨rfl, rfl⟩ := hcut
      cases tb with
      | true =>
        obtain ⟨hc1, hc2, hc3⟩ := of_decide_eq_true HTB.out
        obtain ⟨rd, u, rfl, -, hu, q2⟩ := Rd.cell (hI.at_ 3 rfl : Rd wc B 1 Af zs.length (zs.map iz) ∧ _).1 hc1
        obtain ⟨z, hz, rfl⟩ : ∃ z, zs[i] = z ∧ iz z = u := ⟨zs[i], rfl, by rw [List.getElem?_map, List.getElem?_eq_getElem hc1] at hu; exact Option.some.inj hu⟩
        have q3 : wc.cell? (rd.add i) = some (.int .i64 z) := q2
        have hzz := HZ.out.2 z (by rw [← hz]; exact List.getElem_mem hc1)
        clear hu q2 hz
        have wk0 : (0 : Int) ≤ (i : Int) := by omega
        have wk1 : (i : Int) < (zs.length : Int) := by omega
        have wk2 : ((i : Int)).toNat = i := by omega
        have hi0 : (na : Int) ≠ 0 := by omega
        have hi00 : ((na : Int) == 0) = false := by simp; omega
        obtain ⟨hm1, hm2⟩ := tmod_bd z na hc3
        obtain ⟨j, hj, hji⟩ : ∃ j : Nat, z.tmod (na : Int) % (na : Int) = (j : Int) ∧ j < na := ⟨(z.tmod na % na).toNat, by rw [Int.toNat_of_nonneg (Int.emod_nonneg _ hi0)], by have h1 := Int.emod_lt_of_pos (z.tmod na) (show (0 : Int) < (na : Int) by omega); have h2 := Int.emod_nonneg (z.tmod na) hi0; omega⟩
        have wj0 : (0 : Int) ≤ (j : Int) := by omega
        have wj1 : (j : Int) < (na : Int) := by omega
        have wj2 : ((j : Int)).toNat = j := by omega
        have hjl : j < ds.length := by rw [HNA.out]; exact hji
        obtain ⟨aa, rfl, -, hd⟩ := Digs.elem (hI.at_ 2 rfl : Digs wc b1 Aa na ds ∧ _).1 hjl
        have hbb : b1 ≤ wc.heap.size := (hI.at_ 1 rfl : _ ∧ b1 ≤ wc.heap.size).2
        have HDM : Hid (ds[j] ∈ ds) := Lib.hid (List.getElem_mem hjl)
        have HDJ : Hid (ds[j].length = 32) := Lib.hid (HFO.out.d32 _ HDM.out)
        have HX := Lib.hid hd
        clear hd
        generalize ds[j] = d at *
        clear hjl
        go_wp2_with (first
          | (refine wl_load_any rfl 32 (.tmp 52) rfl (aa.add (j * 32)) rfl (d.map bv) _ HX.out Tryz.underlying32 rfl (by rw [List.length_map, HDJ.out]; kernel_rfl) ?_)
          | (refine wl_lit1 el_dg rfl (.tmp 53) rfl (d.map bv) rfl (by rw [List.length_map]; exact HDJ.out) (by decide) ?_)
          | (at_builtin; refine wl_app_at el_dg (hI.alloc _) 0 rfl (.tmp 37) (.tmp 54) rfl b1 _ _ _ _ rfl rfl (wc.heap.size + 1) _ 1 1 (d.map bv) rfl (Rd.lit wc (d.map bv).toArray _ 1 (by rw [List.size_toArray, List.length_map, HDJ.out])) (bv_one _) (by omega) (by simp; omega) (by intro g hg h; exact ⟨fun g' e => (by injection e with e; subst e; exact hg), fun g' e => (by injection e with e; subst e; exact hg), fun g' e => (by injection e with e; subst e; exact Nat.le_trans hBb hg), fun g' e => (by injection e with e; subst e; exact Nat.le_trans hwb hg), trivial⟩) ?_; intro A8 c8 w8 hJ8 hs8; simp only [List.set_cons_zero] at hJ8))
        refine ⟨⟨i + 1, A8, c8, rs ++ [d], by omega, by go_num, by simp, Lib.hid ⟨by have := HRS.out.1; simp; omega, fun y hy => ?_⟩, ?_⟩, by simp [intOf]; omega⟩
        · rcases List.mem_append.1 hy with h | h
          · exact HRS.out.2 y h
          · rw [List.mem_singleton.1 h]; exact HDM.out
        · refine ⟨(hJ8.at_ 0 rfl : Go.Adm.Own w8 b1 32 32 A8 _ c8 _).cast (by simp) (by simp [dvs]), hJ8.2⟩
      | false =>
        clear HTB
        have hrd : Digs wc wc.heap.size Ar i rs := own_digsA (hI.at_ 0 rfl) (fun d hd => HFO.out.d32 d (HRS.out.2 d hd)) HRS.out.1
        have hbb : b1 ≤ wc.heap.size := (hI.at_ 1 rfl : _ ∧ b1 ≤ wc.heap.size).2
        have hblc := (hI.at_ 1 rfl : Blobs wc b1 As ns l ∧ _).1.mono hbb
        obtain ⟨b2, hb2⟩ : ∃ b, b = wc.heap.size := ⟨_, rfl⟩
        have hw2 : w.heap.size ≤ b2 := by omega
        have hJ : All wc [.low (.blobs b2 As ns l), .low (.digs b2 Ar i rs), .kept w w.heap.size] := ⟨⟨by rw [hb2]; exact hblc, by show b2 ≤ wc.heap.size; omega⟩, ⟨by rw [hb2]; exact hrd, by show b2 ≤ wc.heap.size; omega⟩, hI.at_ 4 rfl, trivial⟩
        have hs1 := Sweep_any wc wc.heap.size As ns cs l hblc Ar i cr rs hrd (by omega) (by omega) HFO.out.big (Nat.le_refl _) (by omega)
        clear hI hrd hblc hb2
        go_upto_region 8 with (go_at_call 17; refine hs1.mono ?_; clear hs1; rintro e w3 ⟨A3, c3, o3, e3, rfl, hB3, hoc3, hcm3, hb3, hd3⟩; have hJ3 := hJ.call hb3; clear hJ hb3)
        obtain ⟨rfl, P, M, hCP, hpp3⟩ : e3 = 0 ∧ ∃ P M, CloPost l rs P M ∧ o3.map pr = P.map (prAt l) := by
          rcases hd3 with ⟨h1, -⟩ | ⟨-, h1, h2⟩
          · rw [HFO.out.val] at h1; cases h1
          · exact ⟨h1, h2⟩
        clear hd3
        have hM0 : M = [] := miss_none hCP HFO.out.lnk HRS.out.2 HFO.out.keys
        subst hM0
        have HCP := Lib.hid hCP
        have HP3 := Lib.hid hpp3
        obtain ⟨hv3, hcp3, hag⟩ := swp_again (hJ3.at_ 0 rfl : Blobs w3 b2 As ns l ∧ _).1 hB3 HFO.out.val hCP hpp3
        have HV3 := Lib.hid hv3
        have HC3 := Lib.hid hcp3
        have HAG := Lib.hid hag
        have hol : o3.length = P.length := by have := congrArg List.length hpp3; rwa [List.length_map, List.length_map] at this
        have HOL := Lib.hid hol
        have hp12 : P.length ≤ 12 := by
          have h1 := congrArg List.length (hpp3.trans (swept_eq HFO.out.val hCP).symm)
          rw [List.length_map, List.length_map] at h1
          have h2 := List.length_filter_le (fun x : Bl => decide (x.d ∈ P)) l
          have h3 := HFO.out.few
          omega
        obtain ⟨b3, hb3⟩ : ∃ b, b = w3.heap.size := ⟨_, rfl⟩
        have hb23 : b2 ≤ w3.heap.size := (hJ3.at_ 0 rfl : _ ∧ b2 ≤ w3.heap.size).2
        have hK3 : All w3 [.low (.blobs b3 A3 P.length o3), .low (.blobs b2 As ns l), .low (.digs b2 Ar i rs), .kept w w.heap.size] := ⟨⟨by rw [hb3, ← hol]; exact hB3, by show b3 ≤ w3.heap.size; omega⟩, hJ3⟩
        have HB3 : Hid (∀ x ∈ o3, x.n ≤ 140737488355000) := Lib.hid (fun x hx => by have := validB_each hv3 x hx; omega)
        have hs2 := Sweep_any w3 w3.heap.size A3 P.length c3 o3 (by rw [← hol]; exact hB3) Ar i cr rs ((hJ3.at_ 1 rfl : Digs w3 b2 Ar i rs ∧ _).1.mono hb23) (by omega) (by omega) HB3.out (Nat.le_refl _) (by omega)
        clear hCP hpp3 hv3 hcp3 hag hB3 hJ3 hol hb3
        rw [HOL.out]
        go_upto_region 9 with (go_at_call 17; refine hs2.mono ?_; clear hs2; rintro e w4 ⟨A4, c4, o4, e4, rfl, hB4, hoc4, hcm4, hb4, hd4⟩; have hK4 := hK3.call hb4; clear hK3 hb4)
        obtain ⟨rfl, hpp4⟩ : e4 = 0 ∧ o4.map pr = o3.map pr := by
          rcases hd4 with ⟨h1, -⟩ | ⟨-, h1, P', M', h2, h3⟩
          · rw [HV3.out] at h1; cases h1
          · obtain ⟨rfl, -⟩ := h2.uniq HC3.out
            exact ⟨h1, h3.trans HAG.out⟩
        have HPP := Lib.hid hpp4
        have hol4 : o4.length = P.length := by have := congrArg List.length hpp4; rw [List.length_map, List.length_map, HOL.out] at this; exact this
        have HOL4 := Lib.hid hol4
        have hK5 : All w4 [.low (.blobs w4.heap.size A4 P.length o4), .low (.blobs b3 A3 P.length o3), .low (.blobs b2 As ns l), .low (.digs b2 Ar i rs), .kept w w.heap.size] := ⟨⟨by rw [← hol4]; exact hB4, Nat.le_refl _⟩, hK4⟩
        have hsm := Same_true w4 w4.heap.size A3 A4 P.length c3 c4 o3 o4 ((hK5.at_ 1 rfl : Blobs w4 b3 A3 _ o3 ∧ _).1.mono (hK5.at_ 1 rfl : _ ∧ b3 ≤ w4.heap.size).2) (hK5.at_ 0 rfl : Blobs w4 _ A4 _ o4 ∧ _).1 hpp4.symm (by omega) (Nat.le_refl _)
        clear hd4 hpp4 hol4 hB4 hK4
        rw [HOL4.out]
        have hoc3' : P.length ≤ c3 := by have := HOL.out; omega
        have hoc4' : P.length ≤ c4 := by have := HOL4.out; omega
        clear hoc3 hoc4
        go_upto_region 11 with (go_at_call 18; refine hsm.mono ?_; clear hsm; rintro e w5 ⟨rfl, hb5⟩; have hK6 := (hK5.call hb5).2; clear hK5 hb5)
        have hr1 := refClosure_any w5 m (HM.out w5 (hK6.at_ 3 rfl : _ ∧ _).1) b2 As ns cs l (hK6.at_ 1 rfl : _ ∧ _).1 Ar i cr rs (hK6.at_ 2 rfl : _ ∧ _).1 (by omega) (by omega) (hK6.at_ 1 rfl : _ ∧ b2 ≤ w5.heap.size).2
        go_upto_region 12 with (go_at_call 10; refine hr1.mono ?_; clear hr1; rintro e w6 ⟨A6, c6, A7, c7, P6, M6, rfl, hP6, hD6, -, hb6⟩; have hK7 := hK6.call hb6; clear hK6 hb6)
        obtain ⟨rfl, rfl⟩ := hP6.uniq HCP.out
        clear hP6
        obtain ⟨b6, hb6⟩ : ∃ b, b = w6.heap.size := ⟨_, rfl⟩
        have hK8 : All w6 [.low (.digs b6 A6 P6.length P6), .low (.blobs b3 A3 P6.length o3), .low (.blobs b2 As ns l), .low (.digs b2 Ar i rs), .kept w w.heap.size] := ⟨⟨by rw [hb6]; exact hD6, by show b6 ≤ w6.heap.size; omega⟩, hK7⟩
        have hb36 : b3 ≤ w6.heap.size := (hK8.at_ 1 rfl : _ ∧ b3 ≤ w6.heap.size).2
        have hb26 : b2 ≤ w6.heap.size := (hK8.at_ 2 rfl : _ ∧ b2 ≤ w6.heap.size).2
        have hr2 := Closure_any w6 w6.heap.size A3 P6.length c3 o3 ((hK8.at_ 1 rfl : Blobs w6 b3 A3 _ o3 ∧ _).1.mono hb36) Ar i cr rs ((hK8.at_ 3 rfl : Digs w6 b2 Ar i rs ∧ _).1.mono hb26) (by omega) (by omega) (Nat.le_refl _)
        clear hD6 hK7 hb6
        go_upto_region 13 with (go_at_call 9; refine hr2.mono ?_; clear hr2; rintro e w7 ⟨A8, c8, A9, c9, P7, M7, rfl, hP7, hD7, -, hb7⟩; have hK9 := hK8.call hb7; clear hK8 hb7)
        obtain ⟨rfl, rfl⟩ := hP7.uniq HC3.out
        clear hP7
        obtain ⟨b7, hb7⟩ : ∃ b, b = w7.heap.size := ⟨_, rfl⟩
        have hL : All w7 [.low (.digs b7 A8 P7.length P7), .low (.digs b6 A6 P7.length P7), .kept w w.heap.size] := ⟨⟨by rw [hb7]; exact hD7, by show b7 ≤ w7.heap.size; omega⟩, hK9.at_ 0 rfl, hK9.at_ 4 rfl, trivial⟩
        have haw := awake_any w7
        clear hD7 hK9 hb7
        have HSD : Hid (∀ W, All W [.low (.digs b7 A8 P7.length P7), .low (.digs b6 A6 P7.length P7), .kept w w.heap.size] → Calls Tryz.prog 11 #[.slice A6 P7.length c6, .slice A8 P7.length c8] W fun e w' => e = .returned (.bool true) ∧ Below W.heap.size W w') := Lib.hid (fun W h => SameDigs_true W W.heap.size A6 A8 P7.length c6 c8 P7 ((h.at_ 1 rfl : Digs W b6 A6 _ P7 ∧ _).1.mono (h.at_ 1 rfl : _ ∧ b6 ≤ W.heap.size).2) ((h.at_ 0 rfl : Digs W b7 A8 _ P7 ∧ _).1.mono (h.at_ 0 rfl : _ ∧ b7 ≤ W.heap.size).2) (by omega) (Nat.le_refl _))
        have de1 : ((P7.length : Int) == (P7.length : Int)) = true := by simp
        go_wp2_with (first
          | (go_at_call 12; refine haw.mono ?_; clear haw; rintro e w8 ⟨rfl, hb8⟩; have hL8 := hL.call hb8; have hsd := HSD.out w8 hL8; clear hL hb8)
          | (go_at_call 11; refine hsd.mono ?_; clear hsd; rintro e w9 ⟨rfl, hb9⟩; have hL9 := hL8.call hb9))
        go_ret
        exact ⟨rfl, (hL9.at_ 2 rfl : _ ∧ _).1⟩
end Go.Proofs.YtkcmaembpfakdaaGreatDoor

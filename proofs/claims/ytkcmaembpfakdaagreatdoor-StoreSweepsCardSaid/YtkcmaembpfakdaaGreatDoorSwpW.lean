/- The reference's Sweep. The law StoreSweeps. -/
import Derived.Test.YtkcmaembpfakdaaGreatDoorSwpA
import Derived.Test.YtkcmaembpfakdaaGreatDoorCloR
import Derived.Test.YtkcmaembpfakdaaGreatDoorSto23
import Derived.Test.YtkcmaembpfakdaaGreatDoorSto14
set_option linter.unusedSimpArgs false
set_option linter.unusedVariables false
set_option maxRecDepth 100000
namespace Go.Adm
open Go Go.RowKit
theorem filt_step {α : Type} (q : α → Bool) (l : List α) (k : Nat) (hk : k < l.length) : (l.take (k + 1)).filter q = (l.take k).filter q ++ (if q l[k] then [l[k]] else []) := by
  rw [List.take_succ_eq_append_getElem hk, List.filter_append]
  congr 1
  cases hq : q l[k] <;> simp [List.filter, hq]
end Go.Adm
namespace Go.Proofs.YtkcmaembpfakdaaGreatDoor
open Go Go.RowKit Go.Adm
set_option maxHeartbeats 12800000 in
theorem refSweep_any (w : World) (m : Int) (hm : w.cell? ⟨0, 0, none⟩ = some (.int .i64 m)) (B : Nat) (A : Option Addr) (n c : Nat) (l : List Bl) (hl : Blobs w B A n l) (Ar : Option Addr) (nr cr : Nat) (roots : List (List UInt8)) (hr : Digs w B Ar nr roots) (hn : n ≤ 1000) (hnr : nr ≤ 1000) (hbig : ∀ x ∈ l, x.n ≤ 140737488355000) (hB : B ≤ w.heap.size) :
    Calls Tryz.prog 19 #[.slice A n c, .slice Ar nr cr] w (SwpRet l roots w) := by
  have hgm : 0 < w.heap.size := World.block_lt_of_cell? w _ hm
  have hR : All w [.low (.blobs B A n l), .low (.digs B Ar nr roots), .kept w w.heap.size] := ⟨⟨hl, hB⟩, ⟨hr, hB⟩, ⟨Below.refl _ _, Nat.le_refl _⟩, trivial⟩
  have HLL := Lib.hid hl.len
  have HBIG := Lib.hid hbig
  have HB32 : Hid (∀ x ∈ l, x.d.length = 32) := Lib.hid (fun x hx => (hl.each x hx).d32)
  have hva := refValid_any w B A n c l hl (by omega) hB hbig
  have hcl : ∀ W, All W [.low (.blobs B A n l), .low (.digs B Ar nr roots), .kept w w.heap.size] → Calls Tryz.prog 10 #[.slice A n c, .slice Ar nr cr] W (CloRet l roots W) := fun W h => refClosure_any W m (((h.at_ 2 rfl : _ ∧ _).1.cell hgm).trans hm) B A n c l (h.at_ 0 rfl : _ ∧ _).1 Ar nr cr roots (h.at_ 1 rfl : _ ∧ _).1 hn hnr (h.at_ 0 rfl : _ ∧ B ≤ W.heap.size).2
  clear hl hr hbig hgm hm
  have hzr := zero_dg
  cases qv : validB l with
  | false =>
    rw [qv] at hva
    have HV := Lib.hid qv
    clear qv
    go_enter Tryz.func19, Tryz.ntmps19
    go_wp2_with (go_at_call 41; refine hva.mono ?_; clear hva; rintro e w1 ⟨rfl, hb1⟩; have hI1 := hR.call hb1)
    go_ret2
    exact ⟨none, 0, [], 1, rfl, Blobs.nil, Nat.le_refl _, Nat.zero_le _, (hI1.at_ 2 rfl : _ ∧ _).1, .inl ⟨HV.out, rfl, rfl⟩⟩
  | true =>
    rw [qv] at hva
    have HV := Lib.hid qv
    clear qv
    go_enter Tryz.func19, Tryz.ntmps19
    go_upto_region 5 with (first
      | (go_at_call 41; refine hva.mono ?_; clear hva; rintro e w1 ⟨rfl, hb1⟩; have hI1 := hR.call hb1; have hcc := hcl w1 hI1)
      | (go_at_call 10; refine hcc.mono ?_; clear hcc; rintro e w2 ⟨A1, c1, A2, c2, P, M, rfl, hCP, hD1, hD2, hb2⟩; have hI2 := hI1.call hb2))
    have HCP := Lib.hid hCP
    have HP32 := Lib.hid hCP.p32
    have hpl : P.length ≤ 200000000 := hCP.len.1
    obtain ⟨Bp, hBp⟩ : ∃ b, b = w2.heap.size := ⟨_, rfl⟩
    rw [← hBp] at hD1
    have hI : All w2 [.own Bp 51 33 none 0 0 (([] : List Bl).map blC).flatten, .low (.blobs B A n l), .low (.digs Bp A1 P.length P), .kept w w.heap.size] := ⟨Go.Adm.Own.nil _ _ _ _, hI2.1, ⟨hD1, by show Bp ≤ w2.heap.size; omega⟩, hI2.at_ 2 rfl, trivial⟩
    have hBw : w.heap.size ≤ Bp := by rw [hBp]; exact (hI2.at_ 2 rfl : _ ∧ w.heap.size ≤ w2.heap.size).2
    clear hI1 hI2 hb1 hb2 hD1 hD2 hcl hR hCP hBp
    go_wp2_with fail
    go_loopw [8, 9] (fun v i wr => ∃ (k : Nat) (Ao : Option Addr) (co : Nat) (o : List Bl), k ≤ n ∧ i = .int .i64 k ∧ v = .slice Ao o.length co ∧ o.length ≤ k ∧ Hid (o = (l.take k).filter (fun x => decide (x.d ∈ P))) ∧ All wr [.own Bp 51 33 Ao o.length co (o.map blC).flatten, .low (.blobs B A n l), .low (.digs Bp A1 P.length P), .kept w w.heap.size]) (fun _ i _ => n - (intOf i).toNat)
    case atStart => exact ⟨0, none, 0, [], Nat.zero_le _, rfl, rfl, Nat.le_refl _, Lib.hid rfl, hI⟩
    case round =>
      clear hI
      obtain ⟨k, Ao, co, o, hk, rfl, rfl, hok, HO, hI⟩ := hrel
      by_cases hlt : k < n
      · have d1 : decide ((k : Int) < (n : Int)) = true := by simp; omega
        have hkl : k < l.length := by rw [HLL.out]; exact hlt
        have HTK := Lib.hid (filt_step (fun x : Bl => decide (x.d ∈ P)) l k hkl)
        have hx32 := Lib.hid (HB32.out _ (List.getElem_mem hkl))
        obtain ⟨ad, rfl, hadB, -⟩ := Els.elem (hI.at_ 1 rfl : Blobs wr B A n l ∧ _).1.els hkl
        have HEX : Hid (∀ W, Blobs W B (some ad) n l → ∀ j u, (blC l[k])[j]? = some u → W.cell? ((ad.add (k * 33)).add j) = some u) := Lib.hid (fun W hW => by
          obtain ⟨a', e, -, hc⟩ := Els.elem hW.els hkl
          obtain rfl := Option.some.inj e
          exact hc)
        generalize l[k] = x at *
        have wk0 : (0 : Int) ≤ (k : Int) := by omega
        have wk1 : (k : Int) < (n : Int) := by omega
        have wk2 : ((k : Int)).toNat = k := by omega
        have hbl := (hI.at_ 1 rfl : Blobs wr B (some ad) n l ∧ B ≤ wr.heap.size)
        have hcd : ∀ j u, (x.d.map bv)[j]? = some u → wr.cell? ((ad.add (k * 33)).add j) = some u := fun j u h => HEX.out wr hbl.1 j u (by have := bl_sub0 x j u h; rwa [Nat.zero_add] at this)
        have hhas := Has_any wr Bp A1 P.length c1 P x.d (hI.at_ 2 rfl : Digs wr Bp A1 P.length P ∧ _).1 hx32.out (by omega) (hI.at_ 2 rfl : _ ∧ Bp ≤ wr.heap.size).2
        by_cases hds : x.d ∈ P
        · have dd : decide (x.d ∈ P) = true := by simpa using hds
          have HO2 : Hid (o ++ [x] = (l.take (k + 1)).filter (fun x => decide (x.d ∈ P))) := Lib.hid (by rw [HTK.out, dd, HO.out]; rfl)
          rw [dd] at hhas
          clear dd hds HO HTK
          go_upto_region 9 with (first
            | (refine wl_load_any rfl 32 (.tmp 29) rfl (ad.add (k * 33)) rfl (x.d.map bv) _ hcd Tryz.underlying32 rfl (by rw [List.length_map, hx32.out]; kernel_rfl) ?_)
            | (go_at_call 13; refine hhas.mono ?_; clear hhas; rintro e w6 ⟨rfl, hb6⟩; have hI6 := hI.call hb6))
          have hc6 := HEX.out w6 (hI6.at_ 1 rfl : _ ∧ _).1
          have hp6 : Bp ≤ w6.heap.size := (hI6.at_ 2 rfl : _ ∧ Bp ≤ w6.heap.size).2
          have hI9 := All.alloc hI6 (.cells (blC x).toArray 51)
          have hrd : Rd (w6.alloc (.cells (blC x).toArray 51)) (w6.heap.size + 1) 33 (some ⟨w6.heap.size, 0, none⟩) 1 (blC x) := Rd.lit (size := 33) w6 (blC x).toArray 51 1 (by rw [List.size_toArray]; exact blC_len hx32.out)
          clear hI hb6 hcd hbl
          go_wp2_with (first
            | (refine wl_load_any rfl 51 (.tmp 35) rfl (ad.add (k * 33)) rfl (blC x) _ hc6 Tryz.underlying51 rfl (by rw [blC_len hx32.out]; kernel_rfl) ?_)
            | (refine wl_lit1 el_bl rfl (.tmp 36) rfl (blC x) rfl (blC_len hx32.out) (by decide) ?_)
            | (at_builtin; refine wl_app_at el_bl hI9 0 rfl (.tmp 32) (.tmp 37) rfl Bp _ _ _ _ rfl rfl (w6.heap.size + 1) _ 1 1 (blC x) rfl hrd (blC_one x) (by omega) (by simp; omega) (by intro g hg h; exact ⟨fun g' e => (by injection e with e; subst e; exact Nat.le_trans (Nat.le_trans hB hBw) hg), fun g' e => (by injection e with e; subst e; exact hg), fun g' e => (by injection e with e; subst e; exact Nat.le_trans hBw hg), trivial⟩) ?_; intro Aa ca Wa hIa hsa))
          simp only [List.set_cons_zero] at hIa
          refine ⟨⟨k + 1, Aa, ca, o ++ [x], by omega, by go_num, by rw [List.length_append]; rfl, by rw [List.length_append, List.length_singleton]; omega, HO2, ?_⟩, by simp [intOf]; omega⟩
          rw [List.length_append, List.length_singleton, blC_snoc]
          exact hIa
        · have dd : decide (x.d ∈ P) = false := by simpa using hds
          have HO2 : Hid (o = (l.take (k + 1)).filter (fun x => decide (x.d ∈ P))) := Lib.hid (by rw [HTK.out, dd, HO.out]; simp)
          rw [dd] at hhas
          clear dd hds HO HTK
          go_wp2_with (first
            | (refine wl_load_any rfl 32 (.tmp 29) rfl (ad.add (k * 33)) rfl (x.d.map bv) _ hcd Tryz.underlying32 rfl (by rw [List.length_map, hx32.out]; kernel_rfl) ?_)
            | (go_at_call 13; refine hhas.mono ?_; clear hhas; rintro e w6 ⟨rfl, hb6⟩; have hI6 := hI.call hb6))
          exact ⟨⟨k + 1, Ao, co, o, by omega, by go_num, rfl, by omega, HO2, hI6⟩, by simp [intOf]; omega⟩
      · have d1 : decide ((k : Int) < (n : Int)) = false := by simp; omega
        have HE : Hid (o = l.filter (fun x => decide (x.d ∈ P))) := Lib.hid (by rw [HO.out, List.take_of_length_le (by rw [HLL.out]; omega)])
        clear HO
        go_wp2_with fail
        go_ret2
        have hbl := (hI.at_ 1 rfl : Blobs wr B A n l ∧ B ≤ wr.heap.size)
        refine ⟨Ao, co, o, 0, rfl, own_blobs (hI.at_ 0 rfl) (fun x hx => ?_), (hI.at_ 0 rfl : Go.Adm.Own _ _ _ _ _ _ _ _).cap.1, (hI.at_ 0 rfl : Go.Adm.Own _ _ _ _ _ _ _ _).cap.2, (hI.at_ 3 rfl : _ ∧ _).1, .inr ⟨HV.out, rfl, P, M, HCP.out, ?_⟩⟩
        · rw [HE.out] at hx
          exact (hbl.1.each x (List.mem_filter.1 hx).1).mono hbl.2
        · rw [HE.out]; exact swept_eq HV.out HCP.out
end Go.Proofs.YtkcmaembpfakdaaGreatDoor
set_option linter.unusedSimpArgs false
set_option linter.unusedVariables false
set_option maxRecDepth 100000
namespace Go.Adm
open Go Go.RowKit
/-- two answers of Sweep agree -/
theorem swp_alike {l o o' : List Bl} {roots : List (List UInt8)} {er er' : Int}
    (h : (validB l = false ∧ er = 1 ∧ o = []) ∨ (validB l = true ∧ er = 0 ∧ ∃ P M, CloPost l roots P M ∧ o.map pr = P.map (prAt l)))
    (h' : (validB l = false ∧ er' = 1 ∧ o' = []) ∨ (validB l = true ∧ er' = 0 ∧ ∃ P M, CloPost l roots P M ∧ o'.map pr = P.map (prAt l))) : er = er' ∧ o.map pr = o'.map pr := by
  rcases h with ⟨h1, h2, h3⟩ | ⟨h1, h2, P, M, h3, h4⟩ <;> rcases h' with ⟨g1, g2, g3⟩ | ⟨g1, g2, P', M', g3, g4⟩
  · exact ⟨by rw [h2, g2], by rw [h3, g3]⟩
  · rw [h1] at g1; cases g1
  · rw [h1] at g1; cases g1
  · exact ⟨by rw [h2, g2], by rw [h4, g4, (h3.uniq g3).1]⟩
theorem swp_len {l o : List Bl} {roots : List (List UInt8)} {er : Int}
    (h : (validB l = false ∧ er = 1 ∧ o = []) ∨ (validB l = true ∧ er = 0 ∧ ∃ P M, CloPost l roots P M ∧ o.map pr = P.map (prAt l))) : o.length ≤ l.length := by
  rcases h with ⟨-, -, h⟩ | ⟨hv, -, P, M, hc, he⟩
  · rw [h]; exact Nat.zero_le _
  · have h1 := congrArg List.length (he.trans (swept_eq hv hc).symm)
    rw [List.length_map, List.length_map] at h1
    have h2 := List.length_filter_le (fun x : Bl => decide (x.d ∈ P)) l
    omega
theorem blobs_eqlen {w w' : World} {B B' n n' : Nat} {A A' : Option Addr} {l l' : List Bl} (h : Blobs w B A n l) (h' : Blobs w' B' A' n' l') (hp : l.map pr = l'.map pr) : n = n' := by
  have := congrArg List.length hp
  rw [List.length_map, List.length_map, h.len, h'.len] at this
  exact this
end Go.Adm
namespace Go.Proofs.YtkcmaembpfakdaaGreatDoor
open Go Go.RowKit Go.Adm
set_option maxHeartbeats 12800000 in
theorem walkSweeps (w : World) (m : Int) (hm : w.cell? ⟨0, 0, none⟩ = some (.int .i64 m)) (B : Nat) (A : Option Addr) (n c : Nat) (l : List Bl) (hl : Blobs w B A n l) (A2 : Option Addr) (n2 c2 : Nat) (l2 : List Bl) (hl2 : Blobs w B A2 n2 l2) (hbig : ∀ x ∈ l, x.n ≤ 140737488351232) (hbig2 : ∀ x ∈ l2, x.n ≤ 140737488351232) (hc : c ≤ 140737488351232) (hnc : n ≤ c) (hc2 : c2 ≤ 140737488351232) (hnc2 : n2 ≤ c2) (Ar : Option Addr) (nr cr : Nat) (roots : List (List UInt8)) (hr : Digs w B Ar nr roots) (hB : B ≤ w.heap.size) :
    Calls Tryz.prog 6 #[.slice A n c, .slice A2 n2 c2, .slice Ar nr cr] w fun e w' => e = .returned (.bool true) ∧ Below w.heap.size w w' := by
  have hgm : 0 < w.heap.size := World.block_lt_of_cell? w _ hm
  have h0 : 0 < w.heap.size := by omega
  have hR : All w [.low (.blobs B A n l), .low (.blobs B A2 n2 l2), .low (.digs B Ar nr roots), .kept w w.heap.size] := ⟨⟨hl, hB⟩, ⟨hl2, hB⟩, ⟨hr, hB⟩, ⟨Below.refl _ _, Nat.le_refl _⟩, trivial⟩
  have HM : Hid (∀ W, Below w.heap.size w W → W.cell? ⟨0, 0, none⟩ = some (.int .i64 m)) := Lib.hid (fun W hb => (hb.cell hgm).trans hm)
  have HB1 : Hid (∀ x ∈ l, x.n ≤ 140737488355000) := Lib.hid (fun x hx => Nat.le_trans (hbig x hx) (by decide))
  have HB2 : Hid (∀ x ∈ l2, x.n ≤ 140737488355000) := Lib.hid (fun x hx => Nat.le_trans (hbig2 x hx) (by decide))
  have hlt1 := light_any w B A n c l hl hB (by omega) HB1.out
  have HLT2 : Hid (∀ W, Blobs W B A2 n2 l2 → B ≤ W.heap.size → Calls Tryz.prog 7 #[.slice A2 n2 c2] W fun e w' => (e = .returned (.bool false) ∨ (e = .returned (.bool true) ∧ n2 ≤ 300)) ∧ Below W.heap.size W w') := Lib.hid (fun W h1 h2 => light_any W B A2 n2 c2 l2 h1 h2 (by omega) HB2.out)
  clear hl hl2 hr hm hgm hbig hbig2
  go_enter Tryz.func6, Tryz.ntmps6
  go_wp2_with fail
  refine hlt1.mono ?_
  clear hlt1
  rintro e w1 ⟨rfl | ⟨rfl, hn300⟩, hb1⟩
  · go_wp2_with fail
    go_ret
    exact ⟨rfl, hb1⟩
  have hI1 := hR.call hb1
  clear hR hb1
  have hlt2 := HLT2.out w1 (hI1.at_ 1 rfl : _ ∧ _).1 (hI1.at_ 1 rfl : _ ∧ B ≤ w1.heap.size).2
  go_wp2_with fail
  refine hlt2.mono ?_
  clear hlt2
  rintro e w2 ⟨rfl | ⟨rfl, hn301⟩, hb2⟩
  · have hI2 := hI1.call hb2
    go_wp2_with fail
    go_ret
    exact ⟨rfl, (hI2.at_ 3 rfl : _ ∧ _).1⟩
  have hI2 := hI1.call hb2
  clear hI1 hb2
  by_cases q3 : 50 < nr
  · have d3 : decide ((50 : Int) < (nr : Int)) = true := by simp; omega
    go_wp2_with fail
    go_ret
    exact ⟨rfl, (hI2.at_ 3 rfl : _ ∧ _).1⟩
  have d3 : decide ((50 : Int) < (nr : Int)) = false := by simp; omega
  have hw2 : w.heap.size ≤ w2.heap.size := hI2.size_kept 3 rfl
  have hs1 := Sweep_any w2 B A n c l (hI2.at_ 0 rfl : _ ∧ _).1 Ar nr cr roots (hI2.at_ 2 rfl : _ ∧ _).1 (by omega) (by omega) HB1.out (hI2.at_ 0 rfl : _ ∧ B ≤ w2.heap.size).2 (by omega)
  go_upto_region 4 with (go_at_call 17; refine hs1.mono ?_; clear hs1; rintro e w3 ⟨A3, c3, o3, e3, rfl, hB3, hoc3, hcm3, hb3, hd3⟩; have hI3 := (hI2.call hb3).cons (r := .low (.blobs w3.heap.size A3 o3.length o3)) ⟨hB3, Nat.le_refl _⟩; clear hI2 hb3)
  have HD3 := Lib.hid hd3
  have HL3 := Lib.hid hB3
  have hs2 := refSweep_any w3 m (HM.out w3 (hI3.at_ 4 rfl : _ ∧ _).1) B A n c l (hI3.at_ 1 rfl : _ ∧ _).1 Ar nr cr roots (hI3.at_ 3 rfl : _ ∧ _).1 (by omega) (by omega) HB1.out (hI3.at_ 1 rfl : _ ∧ B ≤ w3.heap.size).2
  clear hd3 hB3
  go_upto_region 5 with (go_at_call 19; refine hs2.mono ?_; clear hs2; rintro e w4 ⟨A4, c4, o4, e4, rfl, hB4, hoc4, hcm4, hb4, hd4⟩; have hI4 := (hI3.call hb4).cons (r := .low (.blobs w4.heap.size A4 o4.length o4)) ⟨hB4, Nat.le_refl _⟩; clear hI3 hb4)
  obtain ⟨hee, hpp⟩ := swp_alike HD3.out hd4
  have hln : o3.length = o4.length := by have := congrArg List.length hpp; rwa [List.length_map, List.length_map] at this
  have HPP := Lib.hid hpp
  have hol : o3.length ≤ 1000 := by
    have h1 := swp_len HD3.out
    have h2 := (hI4.at_ 2 rfl : Blobs w4 B A n l ∧ _).1.len
    omega
  subst hee
  clear hd4 hpp hB4
  have HLN := Lib.hid hln
  rw [← hln] at hI4
  clear hln
  obtain ⟨b3, hb3⟩ : ∃ b, b = w3.heap.size := ⟨_, rfl⟩
  obtain ⟨b4, hb4⟩ : ∃ b, b = w4.heap.size := ⟨_, rfl⟩
  rw [← hb3, ← hb4] at hI4
  have hm1 := Merge_any w4 B A A2 n n2 c c2 l l2 (hI4.at_ 2 rfl : _ ∧ _).1 (hI4.at_ 3 rfl : _ ∧ _).1 (by omega) (by omega) (hI4.at_ 2 rfl : _ ∧ B ≤ w4.heap.size).2 HB1.out HB2.out
  clear hb3 hb4 HL3 HD3
  go_upto_region 6 with (go_at_call 20; refine hm1.mono ?_; clear hm1; rintro e w5 ⟨A5, n5, c5, l5, rfl, hB5, hnc5, hcm5, hp5, hb5⟩; have hI5 := (hI4.call hb5).cons (r := .low (.blobs w5.heap.size A5 n5 l5)) ⟨hB5, Nat.le_refl _⟩; clear hI4 hb5)
  have HP5 := Lib.hid hp5
  have HB5 := Lib.hid hB5
  have hm2 := refMerge_any w5 B A A2 n n2 c c2 l l2 (hI5.at_ 3 rfl : _ ∧ _).1 (hI5.at_ 4 rfl : _ ∧ _).1 (by omega) (by omega) (hI5.at_ 3 rfl : _ ∧ B ≤ w5.heap.size).2 HB1.out HB2.out
  clear hp5 hB5
  go_upto_region 7 with (go_at_call 21; refine hm2.mono ?_; clear hm2; rintro e w6 ⟨A6, n6, c6, l6, rfl, hB6, hnc6, hcm6, hp6, hb6⟩; have hI6 := (hI5.call hb6).cons (r := .low (.blobs w6.heap.size A6 n6 l6)) ⟨hB6, Nat.le_refl _⟩; clear hI5 hb6)
  have HQ : Hid (l5.map pr = l6.map pr) := Lib.hid (HP5.out.trans hp6.symm)
  have hq := blobs_eqlen HB5.out hB6 HQ.out
  subst hq
  have hn5 : n5 ≤ 1000 := by
    have h1 := congrArg List.length HP5.out
    rw [List.length_map, HB5.out.len] at h1
    have h2 : (merge3 l l2).1.length ≤ l.length + l2.length := by
      unfold merge3
      have h9 := mrgP_len (Pa := l.map pr) (Pb := l2.map pr)
      rw [List.length_map, List.length_map] at h9
      repeat' split
      all_goals first | exact Nat.zero_le _ | exact h9
    have h3 := (hI6.at_ 4 rfl : Blobs w6 B A n l ∧ _).1.len
    have h4 := (hI6.at_ 5 rfl : Blobs w6 B A2 n2 l2 ∧ _).1.len
    omega
  obtain ⟨b5, hb5⟩ : ∃ b, b = w5.heap.size := ⟨_, rfl⟩
  obtain ⟨b6, hb6⟩ : ∃ b, b = w6.heap.size := ⟨_, rfl⟩
  rw [← hb5, ← hb6] at hI6
  clear hp6 hB6 HP5 HB5 hb5 hb6
  generalize (merge3 l l2).2 = em at *
  have HS1 : Hid (∀ W, All W [.low (.blobs b6 A6 n5 l6), .low (.blobs b5 A5 n5 l5), .low (.blobs b4 A4 o3.length o4), .low (.blobs b3 A3 o3.length o3), .low (.blobs B A n l), .low (.blobs B A2 n2 l2), .low (.digs B Ar nr roots), .kept w w.heap.size] → Calls Tryz.prog 18 #[.slice A3 o3.length c3, .slice A4 o3.length c4] W fun e w' => e = .returned (.bool true) ∧ Below W.heap.size W w') := Lib.hid (fun W h => Same_true W W.heap.size A3 A4 o3.length c3 c4 o3 o4 ((h.at_ 3 rfl : Blobs W b3 A3 _ o3 ∧ _).1.mono (h.at_ 3 rfl : _ ∧ b3 ≤ W.heap.size).2) ((h.at_ 2 rfl : Blobs W b4 A4 _ o4 ∧ _).1.mono (h.at_ 2 rfl : _ ∧ b4 ≤ W.heap.size).2) HPP.out (by omega) (Nat.le_refl _))
  have HS2 : Hid (∀ W, All W [.low (.blobs b6 A6 n5 l6), .low (.blobs b5 A5 n5 l5), .low (.blobs b4 A4 o3.length o4), .low (.blobs b3 A3 o3.length o3), .low (.blobs B A n l), .low (.blobs B A2 n2 l2), .low (.digs B Ar nr roots), .kept w w.heap.size] → Calls Tryz.prog 18 #[.slice A5 n5 c5, .slice A6 n5 c6] W fun e w' => e = .returned (.bool true) ∧ Below W.heap.size W w') := Lib.hid (fun W h => Same_true W W.heap.size A5 A6 n5 c5 c6 l5 l6 ((h.at_ 1 rfl : Blobs W b5 A5 _ l5 ∧ _).1.mono (h.at_ 1 rfl : _ ∧ b5 ≤ W.heap.size).2) ((h.at_ 0 rfl : Blobs W b6 A6 _ l6 ∧ _).1.mono (h.at_ 0 rfl : _ ∧ b6 ≤ W.heap.size).2) HQ.out (by omega) (Nat.le_refl _))
  have haw := awake_any w6
  rw [← HLN.out]
  have de1 : (e3 == e3) = true := by simp
  have de2 : (em == em) = true := by simp
  go_wp2_with (first
    | (go_at_call 12; refine haw.mono ?_; clear haw; rintro e w7 ⟨rfl, hb7⟩; have hI7 := hI6.call hb7; have hsa := HS1.out w7 hI7; clear hI6 hb7)
    | (go_at_call 18; refine hsa.mono ?_; clear hsa; rintro e w8 ⟨rfl, hb8⟩; have hI8 := hI7.call hb8; have hsb := HS2.out w8 hI8; clear hI7 hb8)
    | (go_at_call 18; refine hsb.mono ?_; clear hsb; rintro e w9 ⟨rfl, hb9⟩; have hI9 := hI8.call hb9))
  go_ret
  exact ⟨rfl, (hI9.at_ 7 rfl : _ ∧ _).1⟩
end Go.Proofs.YtkcmaembpfakdaaGreatDoor

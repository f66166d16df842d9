/- StoreKeeps, walked. -/
import Derived.Test.YtahfhlpolhibdaaSto16
set_option linter.unusedSimpArgs false
set_option linter.unusedVariables false
set_option maxRecDepth 100000
namespace Go.Adm
open Go Go.RowKit
theorem part_at {w : World} {B n : Nat} {A : Option Addr} {ps : List (List UInt8)} (h : Parts w B A n ps) (hB : B ≤ w.heap.size) {k : Nat} (hk : k < ps.length) :
    ∃ ad R rc, A = some ad ∧ ps[k].length ≤ rc ∧ rc ≤ maxLen ∧ ∀ W, Below w.heap.size w W → W.cell? (ad.add k) = some (.slice R ps[k].length rc) ∧ Rd W B 1 R ps[k].length (ps[k].map bv) := by
  obtain ⟨ad, R, rc, e, hb, hc, h1, h2, h3⟩ := h.at_ hk
  exact ⟨ad, R, rc, e, h1, h2, fun W hW => ⟨by rw [hW.cell (by rw [add_block]; omega)]; exact hc, h3.below hW hB⟩⟩
end Go.Adm
namespace Go.Proofs.Ytahfhlpolhibdaa
open Go Go.RowKit Go.Adm

set_option maxHeartbeats 6400000 in
theorem walkKeeps (w : World) (B : Nat) (A : Option Addr) (n cc : Nat) (ps : List (List UInt8)) (hl : Parts w B A n ps) (hB : B ≤ w.heap.size) (hn : n ≤ 140737488355000) :
    Calls Try.prog 4 #[.slice A n cc] w fun e w' => e = .returned (.bool true) ∧ Below w.heap.size w w' := by
  have hR : All w [.kept w w.heap.size] := ⟨⟨Below.refl _ _, Nat.le_refl _⟩, trivial⟩
  have HN := Lib.hid hl.len
  have HPA : Hid (∀ k (hk : k < ps.length), ∃ ad R rc, A = some ad ∧ ps[k].length ≤ rc ∧ rc ≤ maxLen ∧ ∀ W, Below w.heap.size w W → W.cell? (ad.add k) = some (.slice R ps[k].length rc) ∧ Rd W B 1 R ps[k].length (ps[k].map bv)) := Lib.hid (fun k hk => part_at hl hB hk)
  clear hl
  go_enter Try.func4, Try.ntmps4
  go_upto_region 1 with (fail)
  by_cases h40 : 40 < n
  · have d1 : decide (40 < (n : Int)) = true := by simp; omega
    have d2 : decide (40 < n) = true := by simp; omega
    clear h40
    go_wp2
    go_ret
    exact ⟨rfl, Below.refl _ _⟩
  have d1 : decide (40 < (n : Int)) = false := by simp; omega
  have d2 : decide (40 < n) = false := by simp; omega
  have hn40 : n ≤ 40 := by omega
  clear h40 hn
  have hI0 : All w [.low (.blobs w.heap.size none 0 []), .kept w w.heap.size] := ⟨⟨Blobs.nil, Nat.le_refl _⟩, hR⟩
  clear hR
  go_wp2
  clear d1 d2
  go_loopw [3, 4] (fun s i wr => ∃ (k Bk : Nat) (A' : Option Addr) (n' c' : Nat) (l' : List Bl), k ≤ n ∧ i = .int .i64 k ∧ s = .slice A' n' c' ∧ Hid (l'.map pr = stoP (ps.take k)) ∧ Hid (∀ x ∈ ps.take k, x.length ≤ 1000) ∧ Hid (n' ≤ c' ∧ c' ≤ maxLen) ∧ All wr [.low (.blobs Bk A' n' l'), .kept w w.heap.size]) (fun _ i _ => n - (intOf i).toNat)
  case atStart => exact ⟨0, w.heap.size, none, 0, 0, [], by omega, rfl, rfl, Lib.hid rfl, Lib.hid (fun x hx => by cases hx), Lib.hid ⟨Nat.le_refl _, Nat.zero_le _⟩, hI0⟩
  case round =>
    clear hI0
    obtain ⟨k, Bk, A', n', c', l', hk, rfl, rfl, HPR, H1000, HNC, hI⟩ := hrel
    have hkp := (hI.at_ 1 rfl : Below w.heap.size w wr ∧ _).1
    by_cases hlt : k < n
    · have hkl : k < ps.length := by rw [HN.out]; exact hlt
      obtain ⟨ad, R, rc, rfl, hrc1, hrc2, hP⟩ := HPA.out k hkl
      have HPX := Lib.hid hP
      have q1 := (hP wr hkp).1
      have hrd := (hP wr hkp).2
      have hkw : w.heap.size ≤ wr.heap.size := hI.size_kept 1 rfl
      have HTK : Hid (ps.take (k + 1) = ps.take k ++ [ps[k]]) := Lib.hid (List.take_succ_eq_append_getElem hkl)
      clear hP
      generalize ps[k] = p at *
      have d1 : decide ((k : Int) < (n : Int)) = true := by simp; omega
      have wk0 : (0 : Int) ≤ (k : Int) := by omega
      have wk1 : (k : Int) < (n : Int) := by omega
      have wk2 : ((k : Int)).toNat = k := by omega
      by_cases hp1 : 1000 < p.length
      · have d5 : decide (1000 < (p.length : Int)) = true := by simp; omega
        have d6 : decide (1000 < p.length) = true := by simp; omega
        clear hp1
        go_wp2_with fail
        go_ret
        exact ⟨rfl, hkp⟩
      have d5 : decide (1000 < (p.length : Int)) = false := by simp; omega
      have d6 : decide (1000 < p.length) = false := by simp; omega
      obtain ⟨dp, hdp⟩ : ∃ dp, shaS p = dp := ⟨_, rfl⟩
      have hinv := inv_take ps k (by omega)
      rw [← HPR.out] at hinv
      have hbl := (hI.at_ 0 rfl : Blobs wr Bk A' n' l' ∧ Bk ≤ wr.heap.size)
      have hval : validB l' = true := inv_valid hbl.1 hinv (by rw [List.length_take, HN.out]; omega) (fun c hc => Nat.le_trans (H1000.out c hc) (by omega))
      have hlen : n' ≤ 40 := by
        have h1 := hinv.len
        rw [List.length_map, hbl.1.len, List.length_take] at h1
        omega
      have hpu := Put_any wr wr.heap.size A' R n' c' p.length rc l' dp p (hbl.1.mono hbl.2) (hrd.mono (by omega)) hdp (by omega) (by omega) hrc1 hrc2 (Nat.le_refl _) (fun x hx => by have := validB_each hval x hx; omega)
      unfold PutPost at hpu
      rw [put3_ok hval (by omega) (by rw [hbl.1.len]; omega)] at hpu
      have HST : Hid (putP (l'.map pr) dp p = stoP (ps.take (k + 1))) := Lib.hid (by rw [HTK.out, stoP_snoc, HPR.out, hdp])
      have H1K : Hid (∀ x ∈ ps.take (k + 1), x.length ≤ 1000) := Lib.hid (fun x hx => by
        rw [HTK.out] at hx
        rcases List.mem_append.1 hx with h | h
        · exact H1000.out x h
        · rw [List.mem_singleton.1 h]; omega)
      have HDP : Hid (dp.length = 32) := Lib.hid (by rw [← hdp]; exact shaS_len p)
      clear hp1 hinv hval hlen hbl hdp HTK
      go_wp2_with fail
      refine hpu.mono ?_
      clear hpu q1 hrd
      rintro e w5 ⟨A9, n9, c9, l9, rfl, hbl9, hnc9, hcm9, hpr9, hb5⟩
      have hW5 := hI.call hb5
      have hA5 : All w5 [.low (.blobs w5.heap.size A9 n9 l9), .kept w w.heap.size] := ⟨⟨hbl9, Nat.le_refl _⟩, hW5.at_ 1 rfl, trivial⟩
      have HP9 := Lib.hid (hpr9.trans HST.out)
      have HN9 : Hid (n9 ≤ c9 ∧ c9 ≤ maxLen) := Lib.hid ⟨hnc9, hcm9⟩
      clear hI hb5 hW5 hbl9 hpr9 hnc9 hcm9 HPR H1000 HNC HST hkp
      obtain ⟨g6, hg6⟩ : ∃ g6, g6 = w5.heap.size := ⟨_, rfl⟩
      rw [← hg6] at hA5
      have hwg6 : w.heap.size ≤ g6 := by rw [hg6]; exact (hA5.at_ 1 rfl : _ ∧ _).2
      have hzr := zero_dg
      go_upto_region 10 with (refine wl_store_at (hA5.new (l := z32.map bv) _ 31 hg6 rfl) 0 rfl 31 (.tmp 6) (.tmp 38) rfl g6 _ _ (dp.map bv) rfl (by rw [hg6]; rfl) rfl (by rw [List.length_map, HDP.out]; rfl) (by rw [List.length_map, HDP.out]; kernel_rfl) (bv_one _) (by simp [Apart, Res.apart, Low.blobs] <;> omega) ?_; intro W6 hW6 hs6; simp only [List.set_cons_zero] at hW6)
      clear hs6 hA5 hzr
      clear hg6
      go_wp2_with fail
      exact ⟨⟨k + 1, g6, A9, n9, c9, l9, by omega, by go_num, rfl, HP9, H1K, HN9, hW6.2⟩, by simp [intOf]; omega⟩
    · obtain rfl : n = k := by omega
      have d1 : decide ((n : Int) < (n : Int)) = false := by simp
      have htk : ps.take n = ps := List.take_of_length_le (by rw [HN.out]; exact Nat.le_refl _)
      rw [htk] at HPR H1000
      have HINV : Hid (InvP ps (l'.map pr)) := Lib.hid (by have := inv_take ps n (by rw [HN.out]; exact Nat.le_refl _); rw [htk] at this; rw [HPR.out]; exact this)
      clear hlt hkp htk
      go_wp2_with fail
      have hJ0 := hI
      clear hI d1
      obtain ⟨wo, rfl⟩ : ∃ wo : World, wo = wr := ⟨_, rfl⟩
      go_loopw [8, 9] (fun i _ wr => ∃ k : Nat, k ≤ n ∧ i = .int .i64 k ∧ Hid (∀ x y (hx : x < ps.length) (hy : y < ps.length), x < k → y < x → shaS ps[x] = shaS ps[y] → ps[x] = ps[y]) ∧ All wr [.low (.blobs Bk A' n' l'), .kept w w.heap.size]) (fun i _ _ => n - (intOf i).toNat)
      case atStart => exact ⟨0, by omega, rfl, Lib.hid (fun x y hx hy h => absurd h (by omega)), hJ0⟩
      case round =>
        clear hJ0
        obtain ⟨i, hi, rfl, HC, hI⟩ := hrel
        by_cases hlt : i < n
        · have hil : i < ps.length := by rw [HN.out]; exact hlt
          have d1 : decide ((i : Int) < (n : Int)) = true := by simp; omega
          go_wp2_with fail
          have hK0 := hI
          clear hI d1
          obtain ⟨wp, rfl⟩ : ∃ wp : World, wp = wr := ⟨_, rfl⟩
          go_loopw [9] (fun j wr => ∃ k : Nat, k ≤ i ∧ j = .int .i64 k ∧ Hid (∀ y (hy : y < ps.length), y < k → shaS ps[i] = shaS ps[y] → ps[i] = ps[y]) ∧ All wr [.low (.blobs Bk A' n' l'), .kept w w.heap.size]) (fun j _ => i - (intOf j).toNat)
          case atStart => exact ⟨0, by omega, rfl, Lib.hid (fun y hy h => absurd h (by omega)), hK0⟩
          case round =>
            clear hK0
            obtain ⟨k, hk, rfl, HC1, hI⟩ := hrel
            by_cases hlt2 : k < i
            · have hkl : k < ps.length := by rw [HN.out]; omega
              obtain ⟨ad, R1, rc1, rfl, -, -, hP⟩ := HPA.out i hil
              obtain ⟨ad', R2, rc2, e, -, -, hQ⟩ := HPA.out k hkl
              obtain rfl := Option.some.inj e
              have HP := Lib.hid hP
              have HQ := Lib.hid hQ
              have HPL : Hid (ps[i].length ≤ 140737488355000) := Lib.hid (by have := H1000.out _ (List.getElem_mem hil); omega)
              have HQL : Hid (ps[k].length ≤ 140737488355000) := Lib.hid (by have := H1000.out _ (List.getElem_mem hkl); omega)
              have HSTEP : Hid ((shaS ps[i] = shaS ps[k] → ps[i] = ps[k]) → ∀ y (hy : y < ps.length), y < k + 1 → shaS ps[i] = shaS ps[y] → ps[i] = ps[y]) := Lib.hid (fun h y hy hyk => by
                rcases Nat.lt_or_eq_of_le (Nat.le_of_lt_succ hyk) with h1 | h1
                · exact HC1.out y hy h1
                · subst h1; exact h)
              clear hP hQ e
              generalize ps[i] = p at *
              generalize ps[k] = q at *
              obtain ⟨dp, hdp⟩ : ∃ dp, shaS p = dp := ⟨_, rfl⟩
              obtain ⟨dq, hdq⟩ : ∃ dq, shaS q = dq := ⟨_, rfl⟩
              have HSHP := Lib.hid hdp
              have HSHQ := Lib.hid hdq
              have HDP : Hid (dp.length = 32) := Lib.hid (by rw [← hdp]; exact shaS_len p)
              have HDQ : Hid (dq.length = 32) := Lib.hid (by rw [← hdq]; exact shaS_len q)
              clear hdp hdq
              obtain ⟨sp, hsp⟩ : ∃ s : ByteArray, s = ⟨p.toArray⟩ := ⟨_, rfl⟩
              obtain ⟨sq, hsq⟩ : ∃ s : ByteArray, s = ⟨q.toArray⟩ := ⟨_, rfl⟩
              have HSP := Lib.hid hsp
              have HSQ := Lib.hid hsq
              have HSE : Hid (sp = sq ↔ p = q) := Lib.hid (by rw [hsp, hsq]; exact ⟨fun h => by simpa using h, fun h => by rw [h]⟩)
              clear hsp hsq
              have d1 : decide ((k : Int) < (i : Int)) = true := by simp; omega
              have wk0 : (0 : Int) ≤ (k : Int) := by omega
              have wk1 : (k : Int) < (n : Int) := by omega
              have wk2 : ((k : Int)).toNat = k := by omega
              have wi0 : (0 : Int) ≤ (i : Int) := by omega
              have wi1 : (i : Int) < (n : Int) := by omega
              have wi2 : ((i : Int)).toNat = i := by omega
              go_upto_region 19 with (fail)
              by_cases hde : dp = dq
              · have HDE : Hid (decide (dp = dq) = true) := Lib.hid (decide_eq_true hde)
                by_cases hpq : p = q
                · have HC2 := Lib.hid (HSTEP.out (fun _ => hpq))
                  have hs := HSE.out.2 hpq
                  have HEQ1 : Hid ((sp.data.toList == sq.data.toList) = true) := Lib.hid (by rw [hs]; simp)
                  have HEQ3 : Hid ((sp.toList == sq.toList) = true) := Lib.hid (by rw [hs]; simp)
                  clear hs hpq hde HSTEP
                  refine wp_region_hopsH 22 (54 :: 55 :: 56 :: 57 :: 58 :: 59 :: 60 :: 61 :: 62 :: 63 :: 64 :: 65 :: 66 :: 67 :: 68 :: 69 :: 70 :: 71 :: 72 :: 73 :: 74 :: 75 :: []) [.low (.blobs Bk A' n' l'), .kept w w.heap.size]
                    (.eq (.slice (some ad) n cc) :: .eq (.int .i64 i) :: .eq (.pointer (some (ad.add i))) :: .eq (.slice R1 p.length rc1) :: .eq (.agg (dp.map bv).toArray) :: .eq (.slice (some ad) n cc) :: .eq (.int .i64 k) :: .eq (.pointer (some (ad.add k))) :: .eq (.slice R2 q.length rc2) :: .eq (.agg (dq.map bv).toArray) :: .eq (.bool true) :: .eq (.bool true) :: .eq (.slice (some ad) n cc) :: .eq (.int .i64 i) :: .eq (.pointer (some (ad.add i))) :: .eq (.slice R1 p.length rc1) :: .eq (.string sp) :: .eq (.slice (some ad) n cc) :: .eq (.int .i64 k) :: .eq (.pointer (some (ad.add k))) :: .eq (.slice R2 q.length rc2) :: .eq (.string sq) :: [])
                    (by kernel_rfl) (by kernel_rfl) hI rfl ?hops ?fin
                  case hops =>
                    refine ⟨?_, ?_, ?_, ?_, ?_, ?_, ?_, ?_, ?_, ?_, ?_, ?_, ?_, ?_, ?_, ?_, ?_, ?_, ?_, ?_, ?_, ?_, trivial⟩
                    · intro a W hW hb hd K hK
                      have b0 := hb 0 rfl
                      go_simp
                      exact hK _ _ (World.grownBy.refl _ _) rfl
                    · intro a W hW hb hd K hK
                      have b8 := hb 8 rfl
                      go_simp
                      exact hK _ _ (World.grownBy.refl _ _) rfl
                    · intro a W hW hb hd K hK
                      have b54 : a.tmps[54]?.getD undef = _ := hd ⟨0, .data⟩ (by simp) rfl
                      have b55 : a.tmps[55]?.getD undef = _ := hd ⟨1, .data⟩ (by simp) rfl
                      go_simp
                      exact hK _ _ (World.grownBy.refl _ _) rfl
                    · intro a W hW hb hd K hK
                      have b56 : a.tmps[56]?.getD undef = _ := hd ⟨2, .data⟩ (by simp) rfl
                      have q1 : W.cell? (ad.add i) = some (.slice R1 p.length rc1) := (HP.out W (hW.at_ 1 rfl : Below w.heap.size w W ∧ _).1).1
                      go_simp
                      exact hK _ _ (World.grownBy.refl _ _) rfl
                    · intro a W hW hb hd K hK
                      have b57 : a.tmps[57]?.getD undef = _ := hd ⟨3, .data⟩ (by simp) rfl
                      go_simp
                      refine (refSum_any W B R1 p.length rc1 p (HP.out W (hW.at_ 1 rfl : Below w.heap.size w W ∧ _).1).2 (Nat.le_trans hB (hW.at_ 1 rfl : _ ∧ w.heap.size ≤ W.heap.size).2) HPL.out).mono ?_
                      rintro e w' ⟨rfl, hb'⟩
                      rw [HSHP.out]
                      exact hK _ _ (grown_of_below hb') rfl
                    · intro a W hW hb hd K hK
                      have b0 := hb 0 rfl
                      go_simp
                      exact hK _ _ (World.grownBy.refl _ _) rfl
                    · intro a W hW hb hd K hK
                      have b9 := hb 9 rfl
                      go_simp
                      exact hK _ _ (World.grownBy.refl _ _) rfl
                    · intro a W hW hb hd K hK
                      have b59 : a.tmps[59]?.getD undef = _ := hd ⟨5, .data⟩ (by simp) rfl
                      have b60 : a.tmps[60]?.getD undef = _ := hd ⟨6, .data⟩ (by simp) rfl
                      go_simp
                      exact hK _ _ (World.grownBy.refl _ _) rfl
                    · intro a W hW hb hd K hK
                      have b61 : a.tmps[61]?.getD undef = _ := hd ⟨7, .data⟩ (by simp) rfl
                      have q1 : W.cell? (ad.add k) = some (.slice R2 q.length rc2) := (HQ.out W (hW.at_ 1 rfl : Below w.heap.size w W ∧ _).1).1
                      go_simp
                      exact hK _ _ (World.grownBy.refl _ _) rfl
                    · intro a W hW hb hd K hK
                      have b62 : a.tmps[62]?.getD undef = _ := hd ⟨8, .data⟩ (by simp) rfl
                      go_simp
                      refine (refSum_any W B R2 q.length rc2 q (HQ.out W (hW.at_ 1 rfl : Below w.heap.size w W ∧ _).1).2 (Nat.le_trans hB (hW.at_ 1 rfl : _ ∧ w.heap.size ≤ W.heap.size).2) HQL.out).mono ?_
                      rintro e w' ⟨rfl, hb'⟩
                      rw [HSHQ.out]
                      exact hK _ _ (grown_of_below hb') rfl
                    · intro a W hW hb hd K hK
                      have b58 : a.tmps[58]?.getD undef = _ := hd ⟨4, .data⟩ (by simp) rfl
                      have b63 : a.tmps[63]?.getD undef = _ := hd ⟨9, .data⟩ (by simp) rfl
                      have q1 := eqIn_dg W dp dq HDP.out HDQ.out
                      rw [HDE.out] at q1
                      go_simp
                      exact hK _ _ (World.grownBy.refl _ _) rfl
                    · intro a W hW hb hd K hK
                      have b64 : a.tmps[64]?.getD undef = _ := hd ⟨10, .data⟩ (by simp) rfl
                      go_simp
                      exact hK _ _ (World.grownBy.refl _ _) rfl
                    · refine Or.inl ⟨fun v w h => h, ?_⟩
                      intro a W hW hb hd K hK
                      have b0 := hb 0 rfl
                      go_simp
                      exact hK _ _ (World.grownBy.refl _ _) rfl
                    · refine Or.inl ⟨fun v w h => h, ?_⟩
                      intro a W hW hb hd K hK
                      have b8 := hb 8 rfl
                      go_simp
                      exact hK _ _ (World.grownBy.refl _ _) rfl
                    · refine Or.inl ⟨fun v w h => h, ?_⟩
                      intro a W hW hb hd K hK
                      have b66 : a.tmps[66]?.getD undef = _ := hd ⟨12, .data⟩ (by simp) rfl
                      have b67 : a.tmps[67]?.getD undef = _ := hd ⟨13, .data⟩ (by simp) rfl
                      go_simp
                      exact hK _ _ (World.grownBy.refl _ _) rfl
                    · refine Or.inl ⟨fun v w h => h, ?_⟩
                      intro a W hW hb hd K hK
                      have b68 : a.tmps[68]?.getD undef = _ := hd ⟨14, .data⟩ (by simp) rfl
                      have q1 : W.cell? (ad.add i) = some (.slice R1 p.length rc1) := (HP.out W (hW.at_ 1 rfl : Below w.heap.size w W ∧ _).1).1
                      go_simp
                      exact hK _ _ (World.grownBy.refl _ _) rfl
                    · refine Or.inl ⟨fun v w h => h, ?_⟩
                      intro a W hW hb hd K hK
                      have b69 : a.tmps[69]?.getD undef = _ := hd ⟨15, .data⟩ (by simp) rfl
                      have q1 : (convert 23 9 (.slice R1 p.length rc1)).run Try.prog W = .ok (.string sp) W := by rw [HSP.out]; exact conv_b (HP.out W (hW.at_ 1 rfl : Below w.heap.size w W ∧ _).1).2
                      go_simp
                      exact hK _ _ (World.grownBy.refl _ _) rfl
                    · refine Or.inl ⟨fun v w h => h, ?_⟩
                      intro a W hW hb hd K hK
                      have b0 := hb 0 rfl
                      go_simp
                      exact hK _ _ (World.grownBy.refl _ _) rfl
                    · refine Or.inl ⟨fun v w h => h, ?_⟩
                      intro a W hW hb hd K hK
                      have b9 := hb 9 rfl
                      go_simp
                      exact hK _ _ (World.grownBy.refl _ _) rfl
                    · refine Or.inl ⟨fun v w h => h, ?_⟩
                      intro a W hW hb hd K hK
                      have b71 : a.tmps[71]?.getD undef = _ := hd ⟨17, .data⟩ (by simp) rfl
                      have b72 : a.tmps[72]?.getD undef = _ := hd ⟨18, .data⟩ (by simp) rfl
                      go_simp
                      exact hK _ _ (World.grownBy.refl _ _) rfl
                    · refine Or.inl ⟨fun v w h => h, ?_⟩
                      intro a W hW hb hd K hK
                      have b73 : a.tmps[73]?.getD undef = _ := hd ⟨19, .data⟩ (by simp) rfl
                      have q1 : W.cell? (ad.add k) = some (.slice R2 q.length rc2) := (HQ.out W (hW.at_ 1 rfl : Below w.heap.size w W ∧ _).1).1
                      go_simp
                      exact hK _ _ (World.grownBy.refl _ _) rfl
                    · refine Or.inl ⟨fun v w h => h, ?_⟩
                      intro a W hW hb hd K hK
                      have b74 : a.tmps[74]?.getD undef = _ := hd ⟨20, .data⟩ (by simp) rfl
                      have q1 : (convert 23 9 (.slice R2 q.length rc2)).run Try.prog W = .ok (.string sq) W := by rw [HSQ.out]; exact conv_b (HQ.out W (hW.at_ 1 rfl : Below w.heap.size w W ∧ _).1).2
                      go_simp
                      exact hK _ _ (World.grownBy.refl _ _) rfl
                  case fin =>
                    intro vs V hV hv
                    have e11 : vs 11 = _ := hv 11 (by decide)
                    have e16 : vs 16 = _ := hv 16 (by decide)
                    have e21 : vs 21 = _ := hv 21 (by decide)
                    clear hv hI
                    simp only [putAll, List.drop_succ_cons, List.drop_zero, e11, e16, e21, Act.put, List.setIfInBounds_toArray, List.set_cons_succ, List.set_cons_zero]
                    clear e11 e16 e21
                    have q1 : (sp.data.toList == sq.data.toList) = true := HEQ1.out
                    have q3 : (sp.toList == sq.toList) = true := HEQ3.out
                    go_wp2_with fail
                    exact ⟨⟨k + 1, by omega, by go_num, HC2, hV⟩, by simp [intOf]; omega⟩
                · have hs : ¬ sp = sq := fun h => hpq (HSE.out.1 h)
                  have HNE1 : Hid ((sp.data.toList == sq.data.toList) = false) := Lib.hid (by
                    rw [beq_eq_false_iff_ne]
                    intro h
                    exact hs (ByteArray.ext (Array.toList_inj.1 h)))
                  have HNE3 : Hid ((sp.toList == sq.toList) = false) := Lib.hid (by
                    rw [beq_eq_false_iff_ne]
                    intro h
                    rw [ByteArray.toList_eq, ByteArray.toList_eq] at h
                    exact hs (ByteArray.ext (Array.toList_inj.1 h)))
                  clear hs hpq hde HSTEP
                  refine wp_region_hopsH 22 (54 :: 55 :: 56 :: 57 :: 58 :: 59 :: 60 :: 61 :: 62 :: 63 :: 64 :: 65 :: 66 :: 67 :: 68 :: 69 :: 70 :: 71 :: 72 :: 73 :: 74 :: 75 :: []) [.low (.blobs Bk A' n' l'), .kept w w.heap.size]
                    (.eq (.slice (some ad) n cc) :: .eq (.int .i64 i) :: .eq (.pointer (some (ad.add i))) :: .eq (.slice R1 p.length rc1) :: .eq (.agg (dp.map bv).toArray) :: .eq (.slice (some ad) n cc) :: .eq (.int .i64 k) :: .eq (.pointer (some (ad.add k))) :: .eq (.slice R2 q.length rc2) :: .eq (.agg (dq.map bv).toArray) :: .eq (.bool true) :: .eq (.bool true) :: .eq (.slice (some ad) n cc) :: .eq (.int .i64 i) :: .eq (.pointer (some (ad.add i))) :: .eq (.slice R1 p.length rc1) :: .eq (.string sp) :: .eq (.slice (some ad) n cc) :: .eq (.int .i64 k) :: .eq (.pointer (some (ad.add k))) :: .eq (.slice R2 q.length rc2) :: .eq (.string sq) :: [])
                    (by kernel_rfl) (by kernel_rfl) hI rfl ?hops ?fin
                  case hops =>
                    refine ⟨?_, ?_, ?_, ?_, ?_, ?_, ?_, ?_, ?_, ?_, ?_, ?_, ?_, ?_, ?_, ?_, ?_, ?_, ?_, ?_, ?_, ?_, trivial⟩
                    · intro a W hW hb hd K hK
                      have b0 := hb 0 rfl
                      go_simp
                      exact hK _ _ (World.grownBy.refl _ _) rfl
                    · intro a W hW hb hd K hK
                      have b8 := hb 8 rfl
                      go_simp
                      exact hK _ _ (World.grownBy.refl _ _) rfl
                    · intro a W hW hb hd K hK
                      have b54 : a.tmps[54]?.getD undef = _ := hd ⟨0, .data⟩ (by simp) rfl
                      have b55 : a.tmps[55]?.getD undef = _ := hd ⟨1, .data⟩ (by simp) rfl
                      go_simp
                      exact hK _ _ (World.grownBy.refl _ _) rfl
                    · intro a W hW hb hd K hK
                      have b56 : a.tmps[56]?.getD undef = _ := hd ⟨2, .data⟩ (by simp) rfl
                      have q1 : W.cell? (ad.add i) = some (.slice R1 p.length rc1) := (HP.out W (hW.at_ 1 rfl : Below w.heap.size w W ∧ _).1).1
                      go_simp
                      exact hK _ _ (World.grownBy.refl _ _) rfl
                    · intro a W hW hb hd K hK
                      have b57 : a.tmps[57]?.getD undef = _ := hd ⟨3, .data⟩ (by simp) rfl
                      go_simp
                      refine (refSum_any W B R1 p.length rc1 p (HP.out W (hW.at_ 1 rfl : Below w.heap.size w W ∧ _).1).2 (Nat.le_trans hB (hW.at_ 1 rfl : _ ∧ w.heap.size ≤ W.heap.size).2) HPL.out).mono ?_
                      rintro e w' ⟨rfl, hb'⟩
                      rw [HSHP.out]
                      exact hK _ _ (grown_of_below hb') rfl
                    · intro a W hW hb hd K hK
                      have b0 := hb 0 rfl
                      go_simp
                      exact hK _ _ (World.grownBy.refl _ _) rfl
                    · intro a W hW hb hd K hK
                      have b9 := hb 9 rfl
                      go_simp
                      exact hK _ _ (World.grownBy.refl _ _) rfl
                    · intro a W hW hb hd K hK
                      have b59 : a.tmps[59]?.getD undef = _ := hd ⟨5, .data⟩ (by simp) rfl
                      have b60 : a.tmps[60]?.getD undef = _ := hd ⟨6, .data⟩ (by simp) rfl
                      go_simp
                      exact hK _ _ (World.grownBy.refl _ _) rfl
                    · intro a W hW hb hd K hK
                      have b61 : a.tmps[61]?.getD undef = _ := hd ⟨7, .data⟩ (by simp) rfl
                      have q1 : W.cell? (ad.add k) = some (.slice R2 q.length rc2) := (HQ.out W (hW.at_ 1 rfl : Below w.heap.size w W ∧ _).1).1
                      go_simp
                      exact hK _ _ (World.grownBy.refl _ _) rfl
                    · intro a W hW hb hd K hK
                      have b62 : a.tmps[62]?.getD undef = _ := hd ⟨8, .data⟩ (by simp) rfl
                      go_simp
                      refine (refSum_any W B R2 q.length rc2 q (HQ.out W (hW.at_ 1 rfl : Below w.heap.size w W ∧ _).1).2 (Nat.le_trans hB (hW.at_ 1 rfl : _ ∧ w.heap.size ≤ W.heap.size).2) HQL.out).mono ?_
                      rintro e w' ⟨rfl, hb'⟩
                      rw [HSHQ.out]
                      exact hK _ _ (grown_of_below hb') rfl
                    · intro a W hW hb hd K hK
                      have b58 : a.tmps[58]?.getD undef = _ := hd ⟨4, .data⟩ (by simp) rfl
                      have b63 : a.tmps[63]?.getD undef = _ := hd ⟨9, .data⟩ (by simp) rfl
                      have q1 := eqIn_dg W dp dq HDP.out HDQ.out
                      rw [HDE.out] at q1
                      go_simp
                      exact hK _ _ (World.grownBy.refl _ _) rfl
                    · intro a W hW hb hd K hK
                      have b64 : a.tmps[64]?.getD undef = _ := hd ⟨10, .data⟩ (by simp) rfl
                      go_simp
                      exact hK _ _ (World.grownBy.refl _ _) rfl
                    · refine Or.inl ⟨fun v w h => h, ?_⟩
                      intro a W hW hb hd K hK
                      have b0 := hb 0 rfl
                      go_simp
                      exact hK _ _ (World.grownBy.refl _ _) rfl
                    · refine Or.inl ⟨fun v w h => h, ?_⟩
                      intro a W hW hb hd K hK
                      have b8 := hb 8 rfl
                      go_simp
                      exact hK _ _ (World.grownBy.refl _ _) rfl
                    · refine Or.inl ⟨fun v w h => h, ?_⟩
                      intro a W hW hb hd K hK
                      have b66 : a.tmps[66]?.getD undef = _ := hd ⟨12, .data⟩ (by simp) rfl
                      have b67 : a.tmps[67]?.getD undef = _ := hd ⟨13, .data⟩ (by simp) rfl
                      go_simp
                      exact hK _ _ (World.grownBy.refl _ _) rfl
                    · refine Or.inl ⟨fun v w h => h, ?_⟩
                      intro a W hW hb hd K hK
                      have b68 : a.tmps[68]?.getD undef = _ := hd ⟨14, .data⟩ (by simp) rfl
                      have q1 : W.cell? (ad.add i) = some (.slice R1 p.length rc1) := (HP.out W (hW.at_ 1 rfl : Below w.heap.size w W ∧ _).1).1
                      go_simp
                      exact hK _ _ (World.grownBy.refl _ _) rfl
                    · refine Or.inl ⟨fun v w h => h, ?_⟩
                      intro a W hW hb hd K hK
                      have b69 : a.tmps[69]?.getD undef = _ := hd ⟨15, .data⟩ (by simp) rfl
                      have q1 : (convert 23 9 (.slice R1 p.length rc1)).run Try.prog W = .ok (.string sp) W := by rw [HSP.out]; exact conv_b (HP.out W (hW.at_ 1 rfl : Below w.heap.size w W ∧ _).1).2
                      go_simp
                      exact hK _ _ (World.grownBy.refl _ _) rfl
                    · refine Or.inl ⟨fun v w h => h, ?_⟩
                      intro a W hW hb hd K hK
                      have b0 := hb 0 rfl
                      go_simp
                      exact hK _ _ (World.grownBy.refl _ _) rfl
                    · refine Or.inl ⟨fun v w h => h, ?_⟩
                      intro a W hW hb hd K hK
                      have b9 := hb 9 rfl
                      go_simp
                      exact hK _ _ (World.grownBy.refl _ _) rfl
                    · refine Or.inl ⟨fun v w h => h, ?_⟩
                      intro a W hW hb hd K hK
                      have b71 : a.tmps[71]?.getD undef = _ := hd ⟨17, .data⟩ (by simp) rfl
                      have b72 : a.tmps[72]?.getD undef = _ := hd ⟨18, .data⟩ (by simp) rfl
                      go_simp
                      exact hK _ _ (World.grownBy.refl _ _) rfl
                    · refine Or.inl ⟨fun v w h => h, ?_⟩
                      intro a W hW hb hd K hK
                      have b73 : a.tmps[73]?.getD undef = _ := hd ⟨19, .data⟩ (by simp) rfl
                      have q1 : W.cell? (ad.add k) = some (.slice R2 q.length rc2) := (HQ.out W (hW.at_ 1 rfl : Below w.heap.size w W ∧ _).1).1
                      go_simp
                      exact hK _ _ (World.grownBy.refl _ _) rfl
                    · refine Or.inl ⟨fun v w h => h, ?_⟩
                      intro a W hW hb hd K hK
                      have b74 : a.tmps[74]?.getD undef = _ := hd ⟨20, .data⟩ (by simp) rfl
                      have q1 : (convert 23 9 (.slice R2 q.length rc2)).run Try.prog W = .ok (.string sq) W := by rw [HSQ.out]; exact conv_b (HQ.out W (hW.at_ 1 rfl : Below w.heap.size w W ∧ _).1).2
                      go_simp
                      exact hK _ _ (World.grownBy.refl _ _) rfl
                  case fin =>
                    intro vs V hV hv
                    have e11 : vs 11 = _ := hv 11 (by decide)
                    have e16 : vs 16 = _ := hv 16 (by decide)
                    have e21 : vs 21 = _ := hv 21 (by decide)
                    clear hv hI
                    simp only [putAll, List.drop_succ_cons, List.drop_zero, e11, e16, e21, Act.put, List.setIfInBounds_toArray, List.set_cons_succ, List.set_cons_zero]
                    clear e11 e16 e21
                    have q1 : (sp.data.toList == sq.data.toList) = false := HNE1.out
                    have q3 : (sp.toList == sq.toList) = false := HNE3.out
                    go_wp2_with fail
                    refine (awake_any V).mono ?_
                    rintro e w9 ⟨rfl, hb9⟩
                    have hW9 := hV.call hb9
                    go_wp2_with fail
                    go_ret
                    exact ⟨rfl, (hW9.at_ 1 rfl : _ ∧ _).1⟩
              · have HDE : Hid (decide (dp = dq) = false) := Lib.hid (decide_eq_false hde)
                have HC2 := Lib.hid (HSTEP.out (fun h => absurd (HSHP.out.symm.trans (h.trans HSHQ.out)) hde))
                clear hde HSTEP
                refine wp_region_hopsH 22 (54 :: 55 :: 56 :: 57 :: 58 :: 59 :: 60 :: 61 :: 62 :: 63 :: 64 :: 65 :: 66 :: 67 :: 68 :: 69 :: 70 :: 71 :: 72 :: 73 :: 74 :: 75 :: []) [.low (.blobs Bk A' n' l'), .kept w w.heap.size]
                  (.eq (.slice (some ad) n cc) :: .eq (.int .i64 i) :: .eq (.pointer (some (ad.add i))) :: .eq (.slice R1 p.length rc1) :: .eq (.agg (dp.map bv).toArray) :: .eq (.slice (some ad) n cc) :: .eq (.int .i64 k) :: .eq (.pointer (some (ad.add k))) :: .eq (.slice R2 q.length rc2) :: .eq (.agg (dq.map bv).toArray) :: .eq (.bool false) :: .eq (.bool false) :: .eq undef :: .eq undef :: .eq undef :: .eq undef :: .eq undef :: .eq undef :: .eq undef :: .eq undef :: .eq undef :: .eq undef :: [])
                  (by kernel_rfl) (by kernel_rfl) hI rfl ?hops ?fin
                case hops =>
                  refine ⟨?_, ?_, ?_, ?_, ?_, ?_, ?_, ?_, ?_, ?_, ?_, ?_, ?_, ?_, ?_, ?_, ?_, ?_, ?_, ?_, ?_, ?_, trivial⟩
                  · intro a W hW hb hd K hK
                    have b0 := hb 0 rfl
                    go_simp
                    exact hK _ _ (World.grownBy.refl _ _) rfl
                  · intro a W hW hb hd K hK
                    have b8 := hb 8 rfl
                    go_simp
                    exact hK _ _ (World.grownBy.refl _ _) rfl
                  · intro a W hW hb hd K hK
                    have b54 : a.tmps[54]?.getD undef = _ := hd ⟨0, .data⟩ (by simp) rfl
                    have b55 : a.tmps[55]?.getD undef = _ := hd ⟨1, .data⟩ (by simp) rfl
                    go_simp
                    exact hK _ _ (World.grownBy.refl _ _) rfl
                  · intro a W hW hb hd K hK
                    have b56 : a.tmps[56]?.getD undef = _ := hd ⟨2, .data⟩ (by simp) rfl
                    have q1 : W.cell? (ad.add i) = some (.slice R1 p.length rc1) := (HP.out W (hW.at_ 1 rfl : Below w.heap.size w W ∧ _).1).1
                    go_simp
                    exact hK _ _ (World.grownBy.refl _ _) rfl
                  · intro a W hW hb hd K hK
                    have b57 : a.tmps[57]?.getD undef = _ := hd ⟨3, .data⟩ (by simp) rfl
                    go_simp
                    refine (refSum_any W B R1 p.length rc1 p (HP.out W (hW.at_ 1 rfl : Below w.heap.size w W ∧ _).1).2 (Nat.le_trans hB (hW.at_ 1 rfl : _ ∧ w.heap.size ≤ W.heap.size).2) HPL.out).mono ?_
                    rintro e w' ⟨rfl, hb'⟩
                    rw [HSHP.out]
                    exact hK _ _ (grown_of_below hb') rfl
                  · intro a W hW hb hd K hK
                    have b0 := hb 0 rfl
                    go_simp
                    exact hK _ _ (World.grownBy.refl _ _) rfl
                  · intro a W hW hb hd K hK
                    have b9 := hb 9 rfl
                    go_simp
                    exact hK _ _ (World.grownBy.refl _ _) rfl
                  · intro a W hW hb hd K hK
                    have b59 : a.tmps[59]?.getD undef = _ := hd ⟨5, .data⟩ (by simp) rfl
                    have b60 : a.tmps[60]?.getD undef = _ := hd ⟨6, .data⟩ (by simp) rfl
                    go_simp
                    exact hK _ _ (World.grownBy.refl _ _) rfl
                  · intro a W hW hb hd K hK
                    have b61 : a.tmps[61]?.getD undef = _ := hd ⟨7, .data⟩ (by simp) rfl
                    have q1 : W.cell? (ad.add k) = some (.slice R2 q.length rc2) := (HQ.out W (hW.at_ 1 rfl : Below w.heap.size w W ∧ _).1).1
                    go_simp
                    exact hK _ _ (World.grownBy.refl _ _) rfl
                  · intro a W hW hb hd K hK
                    have b62 : a.tmps[62]?.getD undef = _ := hd ⟨8, .data⟩ (by simp) rfl
                    go_simp
                    refine (refSum_any W B R2 q.length rc2 q (HQ.out W (hW.at_ 1 rfl : Below w.heap.size w W ∧ _).1).2 (Nat.le_trans hB (hW.at_ 1 rfl : _ ∧ w.heap.size ≤ W.heap.size).2) HQL.out).mono ?_
                    rintro e w' ⟨rfl, hb'⟩
                    rw [HSHQ.out]
                    exact hK _ _ (grown_of_below hb') rfl
                  · intro a W hW hb hd K hK
                    have b58 : a.tmps[58]?.getD undef = _ := hd ⟨4, .data⟩ (by simp) rfl
                    have b63 : a.tmps[63]?.getD undef = _ := hd ⟨9, .data⟩ (by simp) rfl
                    have q1 := eqIn_dg W dp dq HDP.out HDQ.out
                    rw [HDE.out] at q1
                    go_simp
                    exact hK _ _ (World.grownBy.refl _ _) rfl
                  · intro a W hW hb hd K hK
                    have b64 : a.tmps[64]?.getD undef = _ := hd ⟨10, .data⟩ (by simp) rfl
                    go_simp
                    exact hK _ _ (World.grownBy.refl _ _) rfl
                  · exact Or.inr ⟨fun v w h => by rw [show v = _ from h]; first | (intro h2; cases h2) | (simp [undef]), fun w => rfl⟩
                  · exact Or.inr ⟨fun v w h => by rw [show v = _ from h]; first | (intro h2; cases h2) | (simp [undef]), fun w => rfl⟩
                  · exact Or.inr ⟨fun v w h => by rw [show v = _ from h]; first | (intro h2; cases h2) | (simp [undef]), fun w => rfl⟩
                  · exact Or.inr ⟨fun v w h => by rw [show v = _ from h]; first | (intro h2; cases h2) | (simp [undef]), fun w => rfl⟩
                  · exact Or.inr ⟨fun v w h => by rw [show v = _ from h]; first | (intro h2; cases h2) | (simp [undef]), fun w => rfl⟩
                  · exact Or.inr ⟨fun v w h => by rw [show v = _ from h]; first | (intro h2; cases h2) | (simp [undef]), fun w => rfl⟩
                  · exact Or.inr ⟨fun v w h => by rw [show v = _ from h]; first | (intro h2; cases h2) | (simp [undef]), fun w => rfl⟩
                  · exact Or.inr ⟨fun v w h => by rw [show v = _ from h]; first | (intro h2; cases h2) | (simp [undef]), fun w => rfl⟩
                  · exact Or.inr ⟨fun v w h => by rw [show v = _ from h]; first | (intro h2; cases h2) | (simp [undef]), fun w => rfl⟩
                  · exact Or.inr ⟨fun v w h => by rw [show v = _ from h]; first | (intro h2; cases h2) | (simp [undef]), fun w => rfl⟩
                case fin =>
                  intro vs V hV hv
                  have e11 : vs 11 = _ := hv 11 (by decide)
                  have e16 : vs 16 = _ := hv 16 (by decide)
                  have e21 : vs 21 = _ := hv 21 (by decide)
                  clear hv hI
                  simp only [putAll, List.drop_succ_cons, List.drop_zero, e11, e16, e21, Act.put, List.setIfInBounds_toArray, List.set_cons_succ, List.set_cons_zero]
                  clear e11 e16 e21
                  go_wp2_with fail
                  exact ⟨⟨k + 1, by omega, by go_num, HC2, hV⟩, by simp [intOf]; omega⟩
            · obtain rfl : i = k := by omega
              have d1 : decide ((i : Int) < (i : Int)) = false := by simp
              have HC2 : Hid (∀ x y (hx : x < ps.length) (hy : y < ps.length), x < i + 1 → y < x → shaS ps[x] = shaS ps[y] → ps[x] = ps[y]) := Lib.hid (fun x y hx hy hxi hyx => by
                rcases Nat.lt_or_eq_of_le (Nat.le_of_lt_succ hxi) with h1 | h1
                · exact HC.out x y hx hy h1 hyx
                · subst h1; exact HC1.out y hy hyx)
              go_wp2_with fail
              exact ⟨⟨i + 1, by omega, by go_num, HC2, hI⟩, by simp [intOf]; omega⟩
        · obtain rfl : n = i := by omega
          have d1 : decide ((n : Int) < (n : Int)) = false := by simp
          have HNC2 : Hid (∀ c ∈ ps, ∀ c' ∈ ps, shaS c = shaS c' → c = c') := Lib.hid (fun c hc c' hc' he => by
            obtain ⟨x, hx, rfl⟩ := List.getElem_of_mem hc
            obtain ⟨y, hy, rfl⟩ := List.getElem_of_mem hc'
            rcases Nat.lt_trichotomy x y with h | h | h
            · exact (HC.out y x hy hx (by rw [← HN.out]; exact hy) h he.symm).symm
            · subst h; rfl
            · exact HC.out x y hx hy (by rw [← HN.out]; exact hx) h he)
          clear HC hlt
          go_wp2_with fail
          have hM0 : All wr [.low (.digs w.heap.size none 0 []), .low (.blobs Bk A' n' l'), .kept w w.heap.size] := ⟨⟨Digs.nil, (hI.at_ 1 rfl : _ ∧ _).2⟩, hI⟩
          clear hI d1
          obtain ⟨wq, rfl⟩ : ∃ wq : World, wq = wr := ⟨_, rfl⟩
          go_loopw [10, 11] (fun v j wr => ∃ (i Ba : Nat) (Aa : Option Addr) (na ca : Nat) (xs : List (List UInt8)), i ≤ n ∧ j = .int .i64 i ∧ v = .slice Aa na ca ∧ Hid (xs = allD (ps.take i)) ∧ Hid (na ≤ ca ∧ ca ≤ maxLen) ∧ All wr [.low (.digs Ba Aa na xs), .low (.blobs Bk A' n' l'), .kept w w.heap.size]) (fun _ j _ => n - (intOf j).toNat)
          case atStart => exact ⟨0, w.heap.size, none, 0, 0, [], by omega, rfl, rfl, Lib.hid rfl, Lib.hid ⟨Nat.le_refl _, Nat.zero_le _⟩, hM0⟩
          case round =>
            clear hM0
            obtain ⟨i, Ba, Aa, na, ca, xs, hi, rfl, rfl, HXS, HCA, hI⟩ := hrel
            have hkp := (hI.at_ 2 rfl : Below w.heap.size w wr ∧ _).1
            have hbl := (hI.at_ 1 rfl : Blobs wr Bk A' n' l' ∧ Bk ≤ wr.heap.size)
            have hval : validB l' = true := inv_valid hbl.1 HINV.out (by rw [HN.out]; omega) (fun c hc => Nat.le_trans (H1000.out c hc) (by omega))
            have hlen : n' ≤ 40 := by
              have h1 := HINV.out.len
              rw [List.length_map, hbl.1.len, HN.out] at h1
              omega
            by_cases hlt : i < n
            · have hil : i < ps.length := by rw [HN.out]; exact hlt
              obtain ⟨ad, R1, rc1, rfl, hrc1, hrc2, hP⟩ := HPA.out i hil
              have HP := Lib.hid hP
              have q1 := (hP wr hkp).1
              have hrd := (hP wr hkp).2
              have HPL : Hid (ps[i].length ≤ 140737488355000) := Lib.hid (by have := H1000.out _ (List.getElem_mem hil); omega)
              have HADS0 : Hid (addD xs (shaS ps[i]) = allD (ps.take (i + 1))) := Lib.hid (by rw [List.take_succ_eq_append_getElem hil, allD_snoc, HXS.out])
              obtain ⟨x, hlx, hxm, hxb⟩ := inv_look HINV.out HNC2.out (List.getElem_mem hil)
              have HXL : Hid (xs.length ≤ 41) := Lib.hid (by
                rw [HXS.out, ← stoP_fst, List.length_map]
                have := (inv_take ps i (by omega)).len
                rw [List.length_take] at this
                omega)
              clear hP
              generalize ps[i] = p at *
              obtain ⟨dp, hdp⟩ : ∃ dp, shaS p = dp := ⟨_, rfl⟩
              have HDP : Hid (dp.length = 32) := Lib.hid (by rw [← hdp]; exact shaS_len p)
              have HADS : Hid (addD xs dp = allD (ps.take (i + 1))) := Lib.hid (by rw [← hdp]; exact HADS0.out)
              have hsu := refSum_any wr B R1 p.length rc1 p hrd (Nat.le_trans hB (hI.at_ 2 rfl : _ ∧ w.heap.size ≤ wr.heap.size).2) HPL.out
              rw [hdp] at hsu hlx
              obtain ⟨sp, hsp⟩ : ∃ s : ByteArray, s = ⟨p.toArray⟩ := ⟨_, rfl⟩
              have HSP := Lib.hid hsp
              have HLX := Lib.hid hlx
              have HXB := Lib.hid hxb
              have HBG : Hid (∀ y ∈ l', y.n ≤ 140737488355000) := Lib.hid (fun y hy => by have := validB_each hval y hy; omega)
              clear hsp hlx hxb hxm hdp hval hbl HADS0 hrd
              have d1 : decide ((i : Int) < (n : Int)) = true := by simp; omega
              have wi0 : (0 : Int) ≤ (i : Int) := by omega
              have wi1 : (i : Int) < (n : Int) := by omega
              have wi2 : ((i : Int)).toNat = i := by omega
              go_wp2_with fail
              refine hsu.mono ?_
              clear hsu q1
              rintro e w3 ⟨rfl, hb3⟩
              have hW3 := hI.call hb3
              clear hI hb3
              obtain ⟨g12, hg12⟩ : ∃ g12, g12 = w3.heap.size := ⟨_, rfl⟩
              have hBa : Ba ≤ w3.heap.size := (hW3.at_ 0 rfl : _ ∧ Ba ≤ w3.heap.size).2
              have hBk : Bk ≤ w3.heap.size := (hW3.at_ 1 rfl : _ ∧ Bk ≤ w3.heap.size).2
              have hwz : w.heap.size ≤ w3.heap.size := (hW3.at_ 2 rfl : _ ∧ w.heap.size ≤ w3.heap.size).2
              have hzr := zero_dg
              go_upto_region 26 with (refine wl_store_at (hW3.new (l := z32.map bv) _ 31 hg12 rfl) 0 rfl 31 (.tmp 12) (.tmp 89) rfl g12 _ _ (dp.map bv) rfl (by rw [hg12]; rfl) rfl (by rw [List.length_map, HDP.out]; rfl) (by rw [List.length_map, HDP.out]; kernel_rfl) (bv_one _) (by simp [Apart, Res.apart, Low.blobs, Low.digs] <;> omega) ?_; intro W4 hW4 hs4; simp only [List.set_cons_zero] at hW4)
              simp only [← hg12]
              clear hs4 hW3 hg12 hBa hBk hwz hzr
              have hge := Get_any W4 Bk A' n' c' l' dp (hW4.at_ 2 rfl : Blobs W4 Bk A' n' l' ∧ _).1 HDP.out (by omega) (hW4.at_ 2 rfl : _ ∧ Bk ≤ W4.heap.size).2 HBG.out
              rw [HLX.out] at hge
              go_wp2_with (refine wl_load_any rfl 31 (.tmp 12) rfl ⟨g12, 0, none⟩ rfl (dp.map bv) _ (Cells.sub (hW4.at_ 0 rfl) 0 (fun j u h => by rwa [Nat.zero_add])) Try.underlying31 rfl (by rw [List.length_map, HDP.out]; kernel_rfl) ?_)
              refine hge.mono ?_
              clear hge
              rintro e w6 ⟨A5, n5, c5, rfl, hb6, hr6⟩
              rw [show dataB (some x) = p from HXB.out] at hr6
              have hW6 := All.cons (r := .low (.rd w6.heap.size 1 A5 n5 (p.map bv))) ⟨hr6, Nat.le_refl _⟩ (hW4.call hb6)
              obtain ⟨B5, hB5⟩ : ∃ B5, B5 = w6.heap.size := ⟨_, rfl⟩
              rw [← hB5] at hW6
              clear hb6 hr6 hW4 hB5
              go_upto_region 27 with (fail)
              refine wp_region_hopsH 10 (96 :: 97 :: 98 :: 99 :: 100 :: 101 :: 102 :: 103 :: 104 :: 105 :: []) [.low (.rd B5 1 A5 n5 (p.map bv)), .cells g12 31 (dp.map bv), .low (.digs Ba Aa na xs), .low (.blobs Bk A' n' l'), .kept w w.heap.size]
                (.eq (.bool true) :: .eq (.bool false) :: .eq (.bool false) :: .eq (.slice A5 n5 c5) :: .eq (.string sp) :: .eq (.slice (some ad) n cc) :: .eq (.int .i64 i) :: .eq (.pointer (some (ad.add i))) :: .eq (.slice R1 p.length rc1) :: .eq (.string sp) :: [])
                (by kernel_rfl) (by kernel_rfl) hW6 rfl ?hops ?fin
              case hops =>
                refine ⟨?_, ?_, ?_, ?_, ?_, ?_, ?_, ?_, ?_, ?_, trivial⟩
                · intro a W hW hb hd K hK
                  have b14 := hb 14 rfl
                  go_simp
                  exact hK _ _ (World.grownBy.refl _ _) rfl
                · intro a W hW hb hd K hK
                  have b96 : a.tmps[96]?.getD undef = _ := hd ⟨0, .data⟩ (by simp) rfl
                  go_simp
                  exact hK _ _ (World.grownBy.refl _ _) rfl
                · intro a W hW hb hd K hK
                  have b97 : a.tmps[97]?.getD undef = _ := hd ⟨1, .data⟩ (by simp) rfl
                  go_simp
                  exact hK _ _ (World.grownBy.refl _ _) rfl
                · refine Or.inl ⟨fun v w h => h, ?_⟩
                  intro a W hW hb hd K hK
                  have b13 := hb 13 rfl
                  go_simp
                  exact hK _ _ (World.grownBy.refl _ _) rfl
                · refine Or.inl ⟨fun v w h => h, ?_⟩
                  intro a W hW hb hd K hK
                  have b99 : a.tmps[99]?.getD undef = _ := hd ⟨3, .data⟩ (by simp) rfl
                  have q1 : (convert 23 9 (.slice A5 n5 c5)).run Try.prog W = .ok (.string sp) W := by rw [HSP.out]; exact conv_b (hW.at_ 0 rfl : Rd W B5 1 A5 n5 (p.map bv) ∧ _).1
                  go_simp
                  exact hK _ _ (World.grownBy.refl _ _) rfl
                · refine Or.inl ⟨fun v w h => h, ?_⟩
                  intro a W hW hb hd K hK
                  have b0 := hb 0 rfl
                  go_simp
                  exact hK _ _ (World.grownBy.refl _ _) rfl
                · refine Or.inl ⟨fun v w h => h, ?_⟩
                  intro a W hW hb hd K hK
                  have b11 := hb 11 rfl
                  go_simp
                  exact hK _ _ (World.grownBy.refl _ _) rfl
                · refine Or.inl ⟨fun v w h => h, ?_⟩
                  intro a W hW hb hd K hK
                  have b101 : a.tmps[101]?.getD undef = _ := hd ⟨5, .data⟩ (by simp) rfl
                  have b102 : a.tmps[102]?.getD undef = _ := hd ⟨6, .data⟩ (by simp) rfl
                  go_simp
                  exact hK _ _ (World.grownBy.refl _ _) rfl
                · refine Or.inl ⟨fun v w h => h, ?_⟩
                  intro a W hW hb hd K hK
                  have b103 : a.tmps[103]?.getD undef = _ := hd ⟨7, .data⟩ (by simp) rfl
                  have q1 : W.cell? (ad.add i) = some (.slice R1 p.length rc1) := (HP.out W (hW.at_ 4 rfl : Below w.heap.size w W ∧ _).1).1
                  go_simp
                  exact hK _ _ (World.grownBy.refl _ _) rfl
                · refine Or.inl ⟨fun v w h => h, ?_⟩
                  intro a W hW hb hd K hK
                  have b104 : a.tmps[104]?.getD undef = _ := hd ⟨8, .data⟩ (by simp) rfl
                  have q1 : (convert 23 9 (.slice R1 p.length rc1)).run Try.prog W = .ok (.string sp) W := by rw [HSP.out]; exact conv_b (HP.out W (hW.at_ 4 rfl : Below w.heap.size w W ∧ _).1).2
                  go_simp
                  exact hK _ _ (World.grownBy.refl _ _) rfl
              case fin =>
                intro vs V hV hv
                have e2 : vs 2 = _ := hv 2 (by decide)
                have e4 : vs 4 = _ := hv 4 (by decide)
                have e9 : vs 9 = _ := hv 9 (by decide)
                clear hv hW6
                simp only [putAll, List.drop_succ_cons, List.drop_zero, e2, e4, e9, Act.put, List.setIfInBounds_toArray, List.set_cons_succ, List.set_cons_zero]
                clear e2 e4 e9
                have q1 : (sp.data.toList == sp.data.toList) = true := by simp
                have q3 : (sp.toList == sp.toList) = true := by simp
                have had := Add_any V Ba Aa na ca xs dp (hV.at_ 2 rfl : Digs V Ba Aa na xs ∧ _).1 HDP.out (by have := (hV.at_ 2 rfl : Digs V Ba Aa na xs ∧ _).1.len; have := HXL.out; omega) HCA.out.1 HCA.out.2 (hV.at_ 2 rfl : _ ∧ Ba ≤ V.heap.size).2
                go_wp2_with (refine wl_load_any rfl 31 (.tmp 12) rfl ⟨g12, 0, none⟩ rfl (dp.map bv) _ (Cells.sub (hV.at_ 1 rfl) 0 (fun j u h => by rwa [Nat.zero_add])) Try.underlying31 rfl (by rw [List.length_map, HDP.out]; kernel_rfl) ?_)
                refine had.mono ?_
                clear had
                rintro e w9 ⟨A9, n9, c9, rfl, hdg, hnc9, hcm9, hb9⟩
                have hW9 := hV.call hb9
                clear hV hb9
                have HXS2 := Lib.hid (HADS.out)
                go_wp2_with fail
                refine ⟨⟨i + 1, w9.heap.size, A9, n9, c9, addD xs dp, by omega, by go_num, rfl, HXS2, Lib.hid ⟨hnc9, hcm9⟩, ⟨hdg, Nat.le_refl _⟩, hW9.at_ 3 rfl, hW9.at_ 4 rfl, trivial⟩, by simp [intOf]; omega⟩
            · obtain rfl : n = i := by omega
              have d1 : decide ((n : Int) < (n : Int)) = false := by simp
              have hna : na = n' := by
                have h1 := (hI.at_ 0 rfl : Digs wr Ba Aa na xs ∧ _).1.len
                rw [HXS.out, List.take_of_length_le (by rw [HN.out]; exact Nat.le_refl _), ← stoP_fst, ← HPR.out, List.length_map, List.length_map, hbl.1.len] at h1
                exact h1.symm
              subst hna
              have HV := Lib.hid hval
              have HBG : Hid (∀ y ∈ l', y.n ≤ 140737488355000) := Lib.hid (fun y hy => by have := validB_each hval y hy; omega)
              clear hval hbl hkp
              have q1 : ((na : Int) == (na : Int)) = true := by simp
              go_wp2_with fail
              refine (awake_any _).mono ?_
              rintro e w7 ⟨rfl, hb7⟩
              have hW7 := hI.call hb7
              clear hI hb7
              have hva := Valid_any w7 Bk A' na c' l' (hW7.at_ 1 rfl : Blobs w7 Bk A' na l' ∧ _).1 (by omega) (hW7.at_ 1 rfl : _ ∧ Bk ≤ w7.heap.size).2 HBG.out
              rw [HV.out] at hva
              go_wp2_with fail
              refine hva.mono ?_
              clear hva
              rintro e w8 ⟨rfl, hb8⟩
              have hW8 := hW7.call hb8
              clear hW7 hb8
              have hau := Audit_clean w8 Bk A' na c' l' (hW8.at_ 1 rfl : Blobs w8 Bk A' na l' ∧ _).1 (inv_sha HINV.out) (by omega) (hW8.at_ 1 rfl : _ ∧ Bk ≤ w8.heap.size).2 HBG.out
              go_wp2_with fail
              refine hau.mono ?_
              clear hau
              rintro e w9 ⟨rfl, hb9⟩
              have hW9 := hW8.call hb9
              go_wp2_with fail
              go_ret
              exact ⟨rfl, (hW9.at_ 2 rfl : _ ∧ _).1⟩
end Go.Proofs.Ytahfhlpolhibdaa

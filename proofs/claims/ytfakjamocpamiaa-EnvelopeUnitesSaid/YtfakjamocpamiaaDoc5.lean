/- admissionref02.Encode. -/
import Derived.Test.YtfakjamocpamiaaDoc3
import Derived.Test.YtfakjamocpamiaaDocS
set_option linter.unusedSimpArgs false
set_option linter.unusedVariables false
namespace Go.Proofs.Ytfakjamocpamiaa
open Go Go.RowKit Go.Adm

theorem lenW_take_small {l : List ByteArray} (j : Nat) (hl : l.length ≤ 120) (h : ∀ i (hi : i < l.length), i < j → l[i].size ≤ 32768) : lenW (l.take j) ≤ 11796720 := by
 have := lenW_le (l := l.take j) fun w hw => by
  obtain ⟨i, hi, rfl⟩ := List.getElem_of_mem hw
  rw [List.length_take] at hi
  rw [List.getElem_take]
  exact h i (by omega) (by omega)
 have h5 := List.length_take_le' j l
 omega

set_option maxHeartbeats 2000000 in
theorem refEncode_any (w : World) (B : Nat) (A : Option Addr) (n c : Nat) (ls : List (List ByteArray)) (h : Lines w B A n ls) (hB : B ≤ w.heap.size) :
  Calls Try.prog 37 #[.slice A n c] w (EncPost 5 ls w) := by
 have hle := h.le
 have HL := Lib.hid h.len
 have H := Lib.hid h
 clear h
 by_cases h1 : 1000 < n
 ·have hE : Hid (docE ls = 3) := Lib.hid (docE_many (by rw [HL.out]; exact h1))
  go_enter Try.func37, Try.ntmps37
  go_wp2
  go_ret2
  exact EncPost.no hE.out (by decide) (Below.refl _ _)
 ·go_enter Try.func37, Try.ntmps37
  go_wp2
  go_loopw [4, 5, 6] (fun v i _ wr => ∃ k A' c', k ≤ n ∧ i = .int .i64 (k : Nat) ∧ v = .slice A' (encD (ls.take k)).length c' ∧ Own wr w.heap.size 5 1 A' (encD (ls.take k)).length c' ((encD (ls.take k)).map bv) ∧ Below w.heap.size w wr ∧ ∀ j (hj : j < ls.length), j < k → lineE ls[j] = 0) (fun _ i _ _ => n - (intOf i).toNat)
  case atStart => exact ⟨0, _, _, Nat.zero_le _, rfl, rfl, Own.nil _ _ _ _, Below.refl _ _, fun _ _ h => absurd h (by omega)⟩
  case round =>
   obtain ⟨k, A0, c0, hk, rfl, rfl, hown, hbel, hall⟩ := hrel
   have Hall := Lib.hid hall
   clear hall
   have hn1 : (encD (ls.take k)).length ≤ 11796720000 := by
    have h3 : linesE (ls.take k) = 0 := linesE_all fun j hj => by
     rw [List.length_take] at hj
     rw [List.getElem_take]
     exact Hall.out j (by omega) (by omega)
    have h4 := encD_le h3
    have h5 := List.length_take_le k ls
    omega
   by_cases hlt : k < n
   ·have hkl : k < ls.length := by rw [HL.out]; exact hlt
    obtain ⟨ad, A', c', rfl, hadB, hcw, hcl, hcb, hS⟩ := H.out.at_ hkl
    have hc := (hbel.cell (p := ad.add k) (by rw [add_block]; omega)).trans hcw
    have HCW := Lib.hid hcw
    clear hcw
    have HS := Lib.hid hS
    have HM := Lib.hid (encD_succ ls k hkl)
    have HE : Hid (lineE ls[k] ≠ 0 → docE ls = lineE ls[k]) := Lib.hid fun he => by
     rw [docE_line (by rw [HL.out]; exact h1) (by rw [linesE_at hkl Hall.out he]; exact he), linesE_at hkl Hall.out he]
    clear hS
    generalize hl : ls[k] = l at *
    have Hl := Lib.hid hl
    clear hl
    by_cases hl0 : l.length = 0
    ·have hx : ((l.length : Int) == 0) = true := by simp [hl0]
     have hLE : lineE l = 1 := by unfold lineE; rw [if_pos hl0]
     have hE : Hid (docE ls = 1) := Lib.hid (by rw [HE.out (by rw [hLE]; decide), hLE])
     clear hl0 hLE
     go_wp2
     go_ret2
     exact EncPost.no hE.out (by decide) hbel
    ·have hx : ((l.length : Int) == 0) = false := by simp; exact fun h => hl0 (by rw [h]; rfl)
     by_cases hl1 : 120 < l.length
     ·have hLE : lineE l = 3 := by unfold lineE; rw [if_neg hl0, if_pos hl1]
      have hE : Hid (docE ls = 3) := Lib.hid (by rw [HE.out (by rw [hLE]; decide), hLE])
      clear hl0 hLE
      go_wp2
      go_ret2
      exact EncPost.no hE.out (by decide) hbel
     ·have HT : Hid (∀ j, (∀ i (hi : i < l.length), i < j → l[i].size ≤ 32768) → lenW (l.take j) ≤ 11796720) := Lib.hid fun j => lenW_take_small j (by omega)
      have HT0 := HT
      generalize hX : encD (ls.take k) = X at *
      go_wp2
      have HOWN := Lib.hid hown
      have HBEL := Lib.hid hbel
      clear hown hbel hc
      obtain ⟨wo, rfl⟩ : ∃ wo : World, wo = wr := ⟨_, rfl⟩
      go_loopw [4, 6] (fun v i wr => ∃ j A' c', j ≤ l.length ∧ i = .int .i64 (j : Nat) ∧ v = .slice A' (X ++ partL l j).length c' ∧ Own wr w.heap.size 5 1 A' (X ++ partL l j).length c' ((X ++ partL l j).map bv) ∧ Below w.heap.size w wr ∧ ∀ i (hi : i < l.length), i < j → l[i].size ≤ 32768) (fun _ i _ => l.length - (intOf i).toNat)
      case atStart => exact ⟨0, _, _, Nat.zero_le _, rfl, by rw [partL_zero, List.append_nil], by rw [partL_zero, List.append_nil]; exact HOWN.out, HBEL.out, fun _ _ h => absurd h (by omega)⟩
      case round =>
       obtain ⟨j, A1, c1, hj, rfl, rfl, hown, hbel, hwds⟩ := hrel
       have Hwds := Lib.hid hwds
       have HT : Hid (∀ i, i ≤ j → lenW (l.take i) ≤ 11796720) := Lib.hid fun i hi => HT0.out i fun q hq hq2 => Hwds.out q hq (by omega)
       clear hwds
       have hc := (hbel.cell (p := ad.add k) (by rw [add_block]; omega)).trans HCW.out
       by_cases hjt : j < l.length
       ·obtain ⟨ad2, rfl, had2B, hc2w, _⟩ := HS.out.at_ hjt
        have hc2 := (hbel.cell (p := ad2.add j) (by rw [add_block]; omega)).trans hc2w
        have HC2W := Lib.hid hc2w
        clear hc2w
        by_cases hlong : 32768 < l[j].size
        ·have hLE : lineE l = 3 := lineE_of_long hjt hlong (by omega)
         have hE : Hid (docE ls = 3) := Lib.hid (by rw [HE.out (by rw [hLE]; decide), hLE])
         clear hLE
         go_wp2
         go_ret2
         exact EncPost.no hE.out (by decide) hbel
        ·skip
         have hw1 : l[j].size ≤ 32768 := by omega
         have hp1 := partL_len l j
         have hp2 := HT.out j (by omega)
         have hw2 := wordS_len (bs l[j])
         have hw3 := encW_len (bs l[j])
         rw [bs_len] at hw3
         have hxl : (X ++ partL l j).length ≤ 20000000000 := by rw [List.length_append]; omega
         have hwl : (wordS (bs l[j])).length ≤ 100000 := by omega
         clear hp1 hp2 hw2 hw3
         have hsz := hbel.size
         have hY1 : 0 < j → X ++ partL l (j + 1) = (X ++ partL l j) ++ 32 :: wordS (bs l[j]) := fun h0 => by rw [partL_succ l j h0 hjt, List.append_assoc]
         have hY2 : ¬ 0 < j → X ++ partL l (j + 1) = (X ++ partL l j) ++ wordS (bs l[j]) := fun h0 => by
          obtain rfl : j = 0 := by omega
          rw [partL_one l hjt, partL_zero, List.append_nil]
         generalize hY : X ++ partL l j = Y at *
         clear hY
         by_cases hj0 : 0 < j
         ·have HP := Lib.hid (hY1 hj0)
          clear hY1 hY2
          go_wp2_with (at_builtin; refine wl_app _ el_u8 rfl _ _ rfl w.heap.size _ _ _ _ rfl (hown.alloc _) (wr.heap.size + 1) _ 1 1 _ rfl (Rd.lit wr _ _ 1 rfl) (bv_one [32]) (by omega) (by simp; omega) ?_; intro A2 c2 w2 hown2 hbel2 _; have hbelA : Below w.heap.size w w2 := hbel.trans (((Below.refl _ _).alloc (by omega) _).trans hbel2); have hszA := hbelA.size; clear hbel2; have hcA := (hbelA.cell (p := ad.add k) (by rw [add_block]; omega)).trans HCW.out; have hc2A := (hbelA.cell (p := ad2.add j) (by rw [add_block]; omega)).trans HC2W.out)
          refine (refWord_any _ _ (by omega)).mono ?_
          rintro e w3 ⟨rfl, hb3⟩
          have hown3 := hown2.kept hb3
          have hbelB := hbelA.trans (hb3.mono hszA)
          have hszB := hbelB.size
          clear hb3 hown2
          go_wp2_with (at_builtin; refine wl_app_str _ el_u8 Try.underlying9 rfl _ _ rfl w.heap.size _ _ _ _ rfl hown3 _ rfl (by rw [bsize]; omega) hszB ?_; intro A4 c4 w4 hown4 hbel4 _)
          rw [bsize] at hown4
          refine ⟨⟨j + 1, A4, c4, by omega, by go_num, ?_, ?_, hbelB.trans hbel4, fun i hi h3 => by
           rcases Nat.lt_succ_iff_lt_or_eq.1 h3 with h4 | h4
           ·exact Hwds.out i hi h4
           ·subst h4; exact hw1⟩, by simp [intOf]; omega⟩
          ·rw [HP.out]; exact slice_len _ _ (by simp; omega)
          ·rw [HP.out]; exact hown4.cast (by simp; omega) (by simp [bv])
         ·have HP := Lib.hid (hY2 hj0)
          clear hY1 hY2
          go_wp2_with fail
          refine (refWord_any _ _ (by omega)).mono ?_
          rintro e w3 ⟨rfl, hb3⟩
          have hown3 := hown.kept hb3
          have hbelB := hbel.trans (hb3.mono hsz)
          have hszB := hbelB.size
          clear hb3 hown
          go_wp2_with (at_builtin; refine wl_app_str _ el_u8 Try.underlying9 rfl _ _ rfl w.heap.size _ _ _ _ rfl hown3 _ rfl (by rw [bsize]; omega) hszB ?_; intro A4 c4 w4 hown4 hbel4 _)
          rw [bsize] at hown4
          refine ⟨⟨j + 1, A4, c4, by omega, by go_num, ?_, ?_, hbelB.trans hbel4, fun i hi h3 => by
           rcases Nat.lt_succ_iff_lt_or_eq.1 h3 with h4 | h4
           ·exact Hwds.out i hi h4
           ·subst h4; exact hw1⟩, by simp [intOf]; omega⟩
          ·rw [HP.out]; exact slice_len _ _ (by simp)
          ·rw [HP.out]; exact hown4.cast (by simp) (by simp [bv])
       ·have HX : Hid (lineE l = 0) := Lib.hid (lineE_of_ok (by omega) (by omega) fun i hi => Hwds.out i hi (by omega))
        have hp1 := partL_len l j
        have hp2 := HT.out j (by omega)
        have hxl : (X ++ partL l j).length ≤ 20000000000 := by rw [List.length_append]; omega
        clear hp1 hp2
        have hsz := hbel.size
        have hP : encD (ls.take (k + 1)) = (X ++ partL l j) ++ [10] := by rw [HM.out, List.append_assoc, partL_all l j (by omega)]
        have HP := Lib.hid hP
        clear hP
        generalize hY : X ++ partL l j = Y at *
        clear hY
        go_wp2_with (at_builtin; refine wl_app _ el_u8 rfl _ _ rfl w.heap.size _ _ _ _ rfl (hown.alloc _) (wr.heap.size + 1) _ 1 1 _ rfl (Rd.lit wr _ _ 1 rfl) (bv_one [10]) (by omega) (by simp; omega) ?_; intro A2 c2 w2 hown2 hbel2 _)
        refine ⟨⟨k + 1, A2, c2, by omega, by go_num, ?_, ?_, hbel.trans (((Below.refl _ _).alloc (by omega) _).trans hbel2), fun i hi h3 => by
         rcases Nat.lt_succ_iff_lt_or_eq.1 h3 with h4 | h4
         ·exact Hall.out i hi h4
         ·subst h4; rw [Hl.out]; exact HX.out⟩, by simp [intOf]; omega⟩
        ·rw [HP.out]; exact slice_len _ _ (by simp)
        ·rw [HP.out]; exact hown2.cast (by simp) (by simp [bv])
   ·have ht : ls.take k = ls := List.take_of_length_le (by rw [HL.out]; omega)
    rw [ht] at hown hn1 ⊢
    have hE0 : linesE ls = 0 := linesE_all fun j hj => Hall.out j hj (by rw [HL.out] at hj; omega)
    by_cases hbig : 262144 < (encD ls).length
    ·have hE : Hid (docE ls = 3) := Lib.hid (docE_long (by rw [HL.out]; exact h1) hE0 hbig)
     clear ht hE0
     go_wp2
     go_ret2
     exact EncPost.no hE.out (by decide) hbel
    ·have hE : Hid (docE ls = 0) := Lib.hid (docE_ok (by rw [HL.out]; exact h1) hE0 hbig)
     clear ht hE0
     go_wp2
     go_ret2
     exact EncPost.yes hE.out hbel hown
end Go.Proofs.Ytfakjamocpamiaa

/- document.Encode. -/
import Derived.Test.YtfakjamocpamiaaDoc3
import Derived.Test.YtfakjamocpamiaaDocS
set_option linter.unusedSimpArgs false
set_option linter.unusedVariables false
set_option maxRecDepth 100000
namespace Go.Proofs.Ytfakjamocpamiaa
open Go Go.RowKit Go.Adm

set_option maxHeartbeats 2000000 in
theorem Encode_any (w : World) (B : Nat) (A : Option Addr) (n c : Nat) (ls : List (List ByteArray)) (h : Lines w B A n ls) (hB : B ≤ w.heap.size) :
  Calls Try.prog 35 #[.slice A n c] w (EncPost 5 ls w) := by
 have hle := h.le
 have HL := Lib.hid h.len
 have H := Lib.hid h
 clear h
 by_cases h1 : 1000 < n
 ·have hE : Hid (docE ls = 3) := Lib.hid (docE_many (by rw [HL.out]; exact h1))
  go_enter Try.func35, Try.ntmps35
  go_wp2
  go_ret2
  exact EncPost.no hE.out (by decide) (Below.refl _ _)
 ·obtain ⟨i0, hi, hz0, hz1, hz2⟩ := el_u8.hi
  have hmk := fun (W : World) (n : Nat) (hn : n ≤ 100000000000) => run_make (P := Try.prog) W 22 5 i0 _ el_u8.ht hi hz0 .i64 .i64 0 (n : Int) (by omega) (by omega) (by rw [hz2]; omega) (by omega)
  have Hz1 := Lib.hid hz1
  simp only [Int.toNat_natCast, hz1] at hmk
  have HMK := Lib.hid hmk
  have Hi := Lib.hid hi
  clear hi hz0 hz1 hz2 hmk
  go_enter Try.func35, Try.ntmps35
  go_wp2
  go_loop [5, 6, 22] (fun _ _ i => ∃ k : Nat, k ≤ n ∧ i = .int .i64 k ∧ ∀ j (hj : j < ls.length), j < k → lineE ls[j] = 0) (fun _ _ i => n - (intOf i).toNat)
  case atStart => exact ⟨0, Nat.zero_le _, rfl, fun _ _ h => absurd h (by omega)⟩
  case round =>
   obtain ⟨k, hk, rfl, hall⟩ := hrel
   have Hall := Lib.hid hall
   clear hall
   by_cases hlt : k < n
   ·have hkl : k < ls.length := by rw [HL.out]; exact hlt
    obtain ⟨ad, A', c', rfl, _, hc, hcl, hcb, hS⟩ := H.out.at_ hkl
    have hcb' : c' ≤ 9223372036854775807 := hcb
    have HS := Lib.hid hS
    clear hS
    by_cases he : lineE ls[k] = 0
    ·have HE := Lib.hid he
     clear he
     go_wp2_with fail
     refine (check_any _ B _ _ _ _ HS.out (Nat.le_trans hcl hcb)).mono ?_
     rintro e w' ⟨rfl, rfl⟩
     rw [HE.out]
     go_wp2
     go_round
     case rel => exact ⟨k + 1, by omega, by go_num, fun j hj h3 => by
        rcases Nat.lt_succ_iff_lt_or_eq.1 h3 with h4 | h4
        ·exact Hall.out j hj h4
        ·subst h4; exact HE.out⟩
     case measure => simp [intOf]; omega
    ·have hx : (lineE ls[k] != 0) = true := by simpa using he
     have hE : Hid (docE ls = lineE ls[k]) := Lib.hid (by rw [docE_line (by rw [HL.out]; exact h1) (by rw [linesE_at hkl Hall.out he]; exact he), linesE_at hkl Hall.out he])
     have He := Lib.hid he
     clear he
     go_wp2_with fail
     refine (check_any _ B _ _ _ _ HS.out (Nat.le_trans hcl hcb)).mono ?_
     rintro e w' ⟨rfl, rfl⟩
     go_wp2
     go_ret2
     exact EncPost.no hE.out He.out (Below.refl _ _)
   ·have hE0 : linesE ls = 0 := linesE_all fun j hj => Hall.out j hj (by rw [HL.out] at hj; omega)
    have htot : ∀ k, tW (ls.take k) ≤ 11796720000 := fun k => by
     have := tW_le (linesE_take hE0 k)
     have h5 := List.length_take_le' k ls
     rw [HL.out] at h5
     omega
    have Htot := Lib.hid htot
    have HE0 := Lib.hid hE0
    clear hE0 htot Hall
    go_wp2
    go_loop [7, 34] (fun s i => ∃ k : Nat, k ≤ n ∧ i = .int .i64 k ∧ s = .int .i64 (tW (ls.take k))) (fun _ i => n - (intOf i).toNat)
    case atStart => exact ⟨0, Nat.zero_le _, rfl, rfl⟩
    case round =>
     obtain ⟨k, hk, rfl, rfl⟩ := hrel
     have ht1 := Htot.out k
     by_cases hlt : k < n
     ·have hkl : k < ls.length := by rw [HL.out]; exact hlt
      obtain ⟨ad, A', c', rfl, _, hc, hcl, hcb, hS⟩ := H.out.at_ hkl
      have hcb' : c' ≤ 9223372036854775807 := hcb
      have HS := Lib.hid hS
      have ht2 := Htot.out (k + 1)
      have hM := tW_succ ls k hkl
      have HM := Lib.hid hM
      have hln := fun j => lenW_take_le (linesE_zero.1 HE0.out _ (List.getElem_mem hkl)) j
      have Hln := Lib.hid hln
      clear hS hM hln
      generalize hl : ls[k] = l at *
      have Hl := Lib.hid hl
      clear hl
      go_wp2
      go_loop [7, 40] (fun s i => ∃ j : Nat, j ≤ l.length ∧ i = .int .i64 j ∧ s = .int .i64 (tW (ls.take k) + lenW (l.take j) : Nat)) (fun _ i => l.length - (intOf i).toNat)
      case atStart => exact ⟨0, Nat.zero_le _, rfl, by simp [lenW]⟩
      case round =>
       obtain ⟨j, hj, rfl, rfl⟩ := hrel
       have hl1 := Hln.out j
       by_cases hjt : j < l.length
       ·obtain ⟨ad2, rfl, _, hc2, hsz⟩ := HS.out.at_ hjt
        have hl2 := Hln.out (j + 1)
        have hM2 := lenW_succ l j hjt
        have hb2 : (wordS (bs l[j])).length ≤ 11796720 := by omega
        have HM2 := Lib.hid hM2
        clear hM2 hl2
        go_wp2_with fail
        refine (size_any _ _ hsz).mono ?_
        rintro e w' ⟨rfl, rfl⟩
        go_wp2
        go_round
        case rel => exact ⟨j + 1, by omega, by go_num, congrArg (Value.int .i64) (by rw [HM2.out]; omega)⟩
        case measure => simp [intOf]; omega
       ·have ht := Lib.hid (List.take_of_length_le (l := l) (i := j) (by omega))
        go_wp2
        rw [ht.out, ← HM.out]
        go_round
        case rel => exact ⟨k + 1, by omega, by go_num, rfl⟩
        case measure => simp [intOf]; omega
     ·obtain rfl : n = k := by omega
      have hL := HL.out
      have hte : tW (ls.take ls.length) = (encD ls).length := by rw [List.take_length, tW_encD HE0.out]
      rw [hL] at hte
      rw [hte] at ht1 ⊢
      clear hL hte
      by_cases hbig : 262144 < (encD ls).length
      ·have hE : Hid (docE ls = 3) := Lib.hid (docE_long (by rw [HL.out]; exact h1) HE0.out hbig)
       go_wp2
       go_ret2
       exact EncPost.no hE.out (by decide) (Below.refl _ _)
      ·have hE : Hid (docE ls = 0) := Lib.hid (docE_ok (by rw [HL.out]; exact h1) HE0.out hbig)
       have hmk := fun W => HMK.out W (encD ls).length (by omega)
       have Hln := fun k => encD_take_le HE0.out k (by rw [HL.out]; omega)
       have HLn := Lib.hid Hln
       clear Hln
       go_wp2
       go_loopw [12, 57] (fun v i wr => ∃ k A' c', k ≤ n ∧ i = .int .i64 (k : Nat) ∧ v = .slice A' (encD (ls.take k)).length c' ∧ Own wr w.heap.size 5 1 A' (encD (ls.take k)).length c' ((encD (ls.take k)).map bv) ∧ Below w.heap.size w wr) (fun _ i _ => n - (intOf i).toNat)
       case atStart => exact ⟨0, _, _, Nat.zero_le _, rfl, rfl, World.ownsRow_made w _ _ (Nat.le_refl _) (by unfold maxLen; omega) (by simp [madeCells]), (Below.refl _ _).alloc (Nat.le_refl _) _⟩
       case round =>
        obtain ⟨k, A0, c0, hk, rfl, rfl, hown, hbel⟩ := hrel
        have hn1 := HLn.out k
        by_cases hlt : k < n
        ·have hkl : k < ls.length := by rw [HL.out]; exact hlt
         obtain ⟨ad, A', c', rfl, hc, hcl, hcb, hS⟩ := H.out.at_in hbel hB hkl
         have hcb' : c' ≤ 9223372036854775807 := hcb
         have HS := Lib.hid hS
         have HM := Lib.hid (encD_succ ls k hkl)
         have hn2 := HLn.out (k + 1)
         have HX := Lib.hid (linesE_zero.1 HE0.out _ (List.getElem_mem hkl))
         clear hS
         generalize hl : ls[k] = l at *
         have Hl := Lib.hid hl
         clear hl
         generalize hX : encD (ls.take k) = X at *
         go_wp2
         clear hc
         have HOWN := Lib.hid hown
         have HBEL := Lib.hid hbel
         clear hown hbel
         obtain ⟨wo, rfl⟩ : ∃ wo : World, wo = wr := ⟨_, rfl⟩
         go_loopw [12, 63] (fun v i wr => ∃ j A' c', j ≤ l.length ∧ i = .int .i64 (j : Nat) ∧ v = .slice A' (X ++ partL l j).length c' ∧ Own wr w.heap.size 5 1 A' (X ++ partL l j).length c' ((X ++ partL l j).map bv) ∧ Below w.heap.size w wr) (fun _ i _ => l.length - (intOf i).toNat)
         case atStart => exact ⟨0, _, _, Nat.zero_le _, rfl, by rw [partL_zero, List.append_nil], by rw [partL_zero, List.append_nil]; exact HOWN.out, HBEL.out⟩
         case round =>
          obtain ⟨j, A1, c1, hj, rfl, rfl, hown, hbel⟩ := hrel
          by_cases hjt : j < l.length
          ·obtain ⟨ad2, rfl, hc2, _⟩ := HS.out.at_in hbel hB hjt
           have hw1 := (lineE_zero HX.out).2.2 _ (List.getElem_mem hjt)
           have hp1 := partL_len l j
           have hp2 := lenW_take_le HX.out j
           have hw2 := wordS_len (bs l[j])
           have hw3 := encW_len (bs l[j])
           rw [bs_len] at hw3
           have hxl : (X ++ partL l j).length ≤ 20000000000 := by rw [List.length_append]; omega
           have hwl : (wordS (bs l[j])).length ≤ 100000 := by omega
           clear hp1 hp2 hw2 hw3
           have hsz := hbel.size
           have hY1 : 0 < j → X ++ partL l (j + 1) = (X ++ partL l j) ++ 32 :: wordS (bs l[j]) := fun h0 => by rw [partL_succ l j h0 hjt, List.append_assoc]
           have hY2 : ¬ 0 < j → X ++ partL l (j + 1) = (X ++ partL l j) ++ wordS (bs l[j]) := fun h0 => by
            obtain rfl : j = 0 := by omega
            rw [partL_one l hjt, partL_zero, List.append_nil]
           generalize hY : X ++ partL l j = Y at *
           clear hY
           by_cases hj0 : 0 < j
           ·have HP := Lib.hid (hY1 hj0)
            clear hY1 hY2
            go_wp2_with (at_builtin; refine wl_app _ el_u8 rfl _ _ rfl w.heap.size _ _ _ _ rfl (hown.alloc _) (wr.heap.size + 1) _ 1 1 _ rfl (Rd.lit wr _ _ 1 rfl) (bv_one [32]) (by omega) (by simp; omega) ?_; intro A2 c2 w2 hown2 hbel2 _)
            have hbelA : Below w.heap.size w w2 := hbel.trans (((Below.refl _ _).alloc (by omega) _).trans hbel2)
            have hszA := hbelA.size
            clear hbel2
            refine (Word_any _ _ (by omega)).mono ?_
            rintro e w3 ⟨rfl, hb3⟩
            have hown3 := hown2.kept hb3
            have hbelB := hbelA.trans (hb3.mono hszA)
            have hszB := hbelB.size
            clear hb3 hown2
            go_wp2_with (at_builtin; refine wl_app_str _ el_u8 Try.underlying9 rfl _ _ rfl w.heap.size _ _ _ _ rfl hown3 _ rfl (by rw [bsize]; omega) hszB ?_; intro A4 c4 w4 hown4 hbel4 _)
            rw [bsize] at hown4
            refine ⟨⟨j + 1, A4, c4, by omega, by go_num, ?_, ?_, hbelB.trans hbel4⟩, by simp [intOf]; omega⟩
            ·rw [HP.out]; exact slice_len _ _ (by simp; omega)
            ·rw [HP.out]; exact hown4.cast (by simp; omega) (by simp [bv])
           ·have HP := Lib.hid (hY2 hj0)
            clear hY1 hY2
            go_wp2_with fail
            refine (Word_any _ _ (by omega)).mono ?_
            rintro e w3 ⟨rfl, hb3⟩
            have hown3 := hown.kept hb3
            have hbelB := hbel.trans (hb3.mono hsz)
            have hszB := hbelB.size
            clear hb3 hown
            go_wp2_with (at_builtin; refine wl_app_str _ el_u8 Try.underlying9 rfl _ _ rfl w.heap.size _ _ _ _ rfl hown3 _ rfl (by rw [bsize]; omega) hszB ?_; intro A4 c4 w4 hown4 hbel4 _)
            rw [bsize] at hown4
            refine ⟨⟨j + 1, A4, c4, by omega, by go_num, ?_, ?_, hbelB.trans hbel4⟩, by simp [intOf]; omega⟩
            ·rw [HP.out]; exact slice_len _ _ (by simp)
            ·rw [HP.out]; exact hown4.cast (by simp) (by simp [bv])
          ·have hp1 := partL_len l j
           have hp2 := lenW_take_le HX.out j
           have hxl : (X ++ partL l j).length ≤ 20000000000 := by rw [List.length_append]; omega
           clear hp1 hp2
           have hsz := hbel.size
           have hP : encD (ls.take (k + 1)) = (X ++ partL l j) ++ [10] := by rw [HM.out, List.append_assoc, partL_all l j (by omega)]
           have HP := Lib.hid hP
           clear hP
           generalize hY : X ++ partL l j = Y at *
           clear hY
           go_wp2_with (at_builtin; refine wl_app _ el_u8 rfl _ _ rfl w.heap.size _ _ _ _ rfl (hown.alloc _) (wr.heap.size + 1) _ 1 1 _ rfl (Rd.lit wr _ _ 1 rfl) (bv_one [10]) (by omega) (by simp; omega) ?_; intro A2 c2 w2 hown2 hbel2 _)
           refine ⟨⟨k + 1, A2, c2, by omega, by go_num, ?_, ?_, hbel.trans (((Below.refl _ _).alloc (by omega) _).trans hbel2)⟩, by simp [intOf]; omega⟩
           ·rw [HP.out]; exact slice_len _ _ (by simp)
           ·rw [HP.out]; exact hown2.cast (by simp) (by simp [bv])
        ·go_wp2
         go_ret2
         have ht : ls.take k = ls := List.take_of_length_le (by rw [HL.out]; omega)
         rw [ht] at hown ⊢
         exact EncPost.yes hE.out hbel hown
end Go.Proofs.Ytfakjamocpamiaa

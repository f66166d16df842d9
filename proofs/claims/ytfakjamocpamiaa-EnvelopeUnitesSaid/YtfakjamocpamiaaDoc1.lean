/- The walks over package document and its reference: words. -/
import Derived.Test.YtfakjamocpamiaaDocS
set_option linter.unusedSimpArgs false
set_option linter.unusedVariables false
namespace Go.Proofs.Ytfakjamocpamiaa
open Go Go.RowKit Go.Adm

theorem el_u8 : ElemOf Try.prog 22 5 (.int .u8 0) 1 1 := ElemOf.mk' Try.underlying22 (by kernel_rfl) rfl (by decide) (by decide)

set_option maxHeartbeats 400000 in
theorem plain_any (c : Int) (w : World) (h0 : 0 ≤ c) (h1 : c ≤ 255) :
  Calls Try.prog 82 #[.int .u8 c] w fun e w' => e = .returned (.bool (plainB c)) ∧ w = w' := by
 go_enter Try.func82, Try.ntmps82
 go_wp2
 all_goals go_ret
 all_goals exact ⟨ret_bool (by rw [Bool.eq_iff_iff]; simp [plainB]; try omega), rfl⟩

set_option maxHeartbeats 400000 in
theorem refplain_any (c : Int) (w : World) (h0 : 0 ≤ c) (h1 : c ≤ 255) :
  Calls Try.prog 85 #[.int .u8 c] w fun e w' => e = .returned (.bool (plainB c)) ∧ w = w' := by
 go_enter Try.func85, Try.ntmps85
 go_wp2
 all_goals go_ret
 all_goals exact ⟨ret_bool (by rw [Bool.eq_iff_iff]; simp [plainB]; try omega), rfl⟩

set_option maxHeartbeats 400000 in
theorem size_any (s : ByteArray) (w : World) (hs : s.size ≤ 140737488355328) :
  Calls Try.prog 60 #[.string s] w fun e w' => e = .returned (.int .i64 (wordS (bs s)).length) ∧ w = w' := by
 go_enter Try.func60, Try.ntmps60
 go_wp2
 go_loop [3, 4] (fun n i => ∃ k : Nat, k ≤ s.size ∧ i = .int .i64 k ∧ n = .int .i64 (encW ((bs s).take k)).length) (fun _ i => s.size - (intOf i).toNat)
 case atStart => exact ⟨0, Nat.zero_le _, rfl, rfl⟩
 case round =>
  obtain ⟨k, hk, rfl, rfl⟩ := hrel
  have hl := encW_take (bs s) k
  by_cases hlt : k < s.size
  ·have hE : (encW ((bs s).take (k + 1))).length = (encW ((bs s).take k)).length + if plainU s[k] then 1 else 3 := by
    rw [encW_succ s k hlt, List.length_append, encB_len]
   have HE := Lib.hid hE
   clear hE
   have hb := byte_lt s[k]
   generalize hc : s[k] = c at *
   have HC := Lib.hid hc
   clear hc
   cases hp : plainB c.toNat <;> have HP := Lib.hid hp <;> clear hp
   all_goals
    go_wp2_with fail
    rw [HC.out]
    refine (plain_any _ _ (by omega) hb).mono ?_
    rintro e w' ⟨rfl, rfl⟩
    rw [HP.out]
    go_wp2
    go_round
    case rel => exact ⟨k + 1, by omega, by go_num, by rw [HE.out, plainU, HP.out]; go_num⟩
    case measure => simp [intOf]; omega
  ·have ht := Lib.hid (bs_take_all s k hlt)
   have hw := wordS_len (bs s)
   go_wp2
   all_goals
    go_ret
    exact ⟨ret_int (by rw [ht.out] at *; omega), rfl⟩

def hexT : ByteArray := ⟨#[48, 49, 50, 51, 52, 53, 54, 55, 56, 57, 65, 66, 67, 68, 69, 70]⟩
theorem hex_fin : ∀ n : Fin 16, hexT[n.val]'(show n.val < 16 from n.isLt) = hexd (UInt8.ofNat n.val) := by decide +kernel
theorem hex_of (i : Int) (n : Nat) (hn : n < 16) (e : i.toNat = n) (h : i.toNat < 16) : (⟨#[48, 49, 50, 51, 52, 53, 54, 55, 56, 57, 65, 66, 67, 68, 69, 70]⟩ : ByteArray)[i.toNat]'h = hexd (UInt8.ofNat n) := by
 subst e
 exact hex_fin ⟨i.toNat, h⟩
theorem hex_div (c : UInt8) (h : ((c.toNat : Int) / 16).toNat < 16) : (⟨#[48, 49, 50, 51, 52, 53, 54, 55, 56, 57, 65, 66, 67, 68, 69, 70]⟩ : ByteArray)[((c.toNat : Int) / 16).toNat]'h = hexd (c >>> 4) := by
 have e : UInt8.ofNat (c.toNat / 16) = c >>> 4 := by
  apply UInt8.toNat_inj.1
  have := c.toNat_lt
  rw [UInt8.toNat_shiftRight, Nat.shiftRight_eq_div_pow]
  simp
  omega
 rw [hex_of _ (c.toNat / 16) (by have := c.toNat_lt; omega) (by omega) h, e]
theorem hex_mod (c : UInt8) (h : ((c.toNat : Int) % 16).toNat < 16) : (⟨#[48, 49, 50, 51, 52, 53, 54, 55, 56, 57, 65, 66, 67, 68, 69, 70]⟩ : ByteArray)[((c.toNat : Int) % 16).toNat]'h = hexd (c &&& 15) := by
 have e : UInt8.ofNat (c.toNat % 16) = c &&& 15 := by
  apply UInt8.toNat_inj.1
  rw [UInt8.toNat_and, show (15 : UInt8).toNat = 2 ^ 4 - 1 from rfl, Nat.and_two_pow_sub_one_eq_mod]
  simp
  omega
 rw [hex_of _ (c.toNat % 16) (by omega) (by omega) h, e]

set_option maxHeartbeats 400000 in
theorem Word_any (s : ByteArray) (w : World) (hs : s.size ≤ 10000000000) :
  Calls Try.prog 61 #[.string s] w fun e w' => e = .returned (.string ⟨(wordS (bs s)).toArray⟩) ∧ Below w.heap.size w w' := by
 have hl := encW_len (bs s)
 rw [bs_len] at hl
 by_cases h0 : bs s = []
 ·have hS : wordS (bs s) = [126] := by rw [h0]; rfl
  have hS := Lib.hid hS
  have hem : s.toList.isEmpty = true := by rw [ByteArray.toList_eq, show s.data.toList = [] from h0]; rfl
  clear h0
  go_enter Try.func61, Try.ntmps61
  go_wp2
  go_ret
  exact ⟨ret_str (by rw [hS.out]), Below.refl _ _⟩
 ·have hem : s.toList.isEmpty = false := by rw [ByteArray.toList_eq]; simpa using h0
  have hS : wordS (bs s) = encW (bs s) := by unfold wordS; rw [if_neg h0]
  have hS := Lib.hid hS
  obtain ⟨i0, hi, hz0, hz1, hz2⟩ := el_u8.hi
  have hmk := fun (W : World) (n : Nat) (hn : n ≤ 100000000000) => run_make (P := Try.prog) W 22 5 i0 _ el_u8.ht hi hz0 .i64 .i64 0 (n : Int) (by omega) (by omega) (by rw [hz2]; omega) (by omega)
  have hwl : (wordS (bs s)).length ≤ 100000000000 := by rw [wordS_len]; omega
  generalize hN : (wordS (bs s)).length = N at *
  have HN := Lib.hid hN
  have HMK := fun W => hmk W N hwl
  clear hmk h0 hN
  simp only [Int.toNat_natCast, hz1] at HMK
  have Hz1 := Lib.hid hz1
  have Hi := Lib.hid hi
  clear hi hz0 hz1 hz2
  go_enter Try.func61, Try.ntmps61
  go_wp2_with fail
  refine (size_any _ _ (by omega)).mono ?_
  rintro e w' ⟨rfl, rfl⟩
  rw [HN.out]
  go_wp2
  go_loopw [3, 4] (fun v i wr => ∃ k A c, k ≤ s.size ∧ i = .int .i64 (k : Nat) ∧ v = .slice A (encW ((bs s).take k)).length c ∧ Own wr w.heap.size 5 1 A (encW ((bs s).take k)).length c ((encW ((bs s).take k)).map bv) ∧ Below w.heap.size w wr) (fun _ i _ => s.size - (intOf i).toNat)
  case atStart =>
   exact ⟨0, _, _, Nat.zero_le _, rfl, rfl, World.ownsRow_made w _ N (Nat.le_refl _) (by unfold maxLen; omega) (by simp [madeCells]), (Below.refl _ _).alloc (Nat.le_refl _) _⟩
  case round =>
   obtain ⟨k, A, c, hk, rfl, rfl, hown, hbel⟩ := hrel
   have hl := encW_take (bs s) k
   by_cases hlt : k < s.size
   ·have hE := encW_succ s k hlt
    have hlE : (encW ((bs s).take (k + 1))).length = (encW ((bs s).take k)).length + (encB s[k]).length := by rw [hE, List.length_append]
    have HE := Lib.hid hE
    have HLE := Lib.hid hlE
    clear hE hlE
    have hb := byte_lt s[k]
    generalize hc : s[k] = c at *
    have HC := Lib.hid hc
    clear hc
    have hsz := hbel.size
    cases hp : plainB c.toNat <;> have HP := Lib.hid hp <;> clear hp
    ·go_wp2_with fail
     rw [HC.out]
     refine (plain_any _ _ (by omega) hb).mono ?_
     rintro e w' ⟨rfl, rfl⟩
     rw [HP.out]
     go_wp2
     have hc1 : encB c = [37, hexd (c >>> 4), hexd (c &&& 15)] := by unfold encB plainU; rw [HP.out]; rfl
     rw [hc1] at HLE HE
     clear hc1
     have q0 : (0 : Int) ≤ (s[k].toNat : Int) / 16 := by omega
     have q1 : (s[k].toNat : Int) / 16 < 16 := by have := byte_lt s[k]; omega
     have q3 : (0 : Int) ≤ (s[k].toNat : Int) % 16 := by omega
     have q4 : (s[k].toNat : Int) % 16 < 16 := by omega
     have q2 := u8_and15 (x := (s[k].toNat : Int)) (by omega) (by have := byte_lt s[k]; omega)
     go_region_law (refine st_app _ el_u8 rfl _ _ rfl w.heap.size _ _ _ _ rfl (hown.alloc _).drew (wr.heap.size + 1) _ 3 3 _ rfl (Rd.lit wr _ _ 3 rfl).drew (by intro u hu; simp at hu; rcases hu with rfl | rfl | rfl <;> rfl) (by omega) (by simp; omega) ?_; intro A' c' w1 hown1 hbel1 _)
     all_goals
      simp only [hex_div, hex_mod] at hown1
      rw [HC.out] at hown1
      go_wp2
      refine ⟨⟨k + 1, A', c', by omega, by go_num, by rw [HLE.out]; rfl, by rw [HLE.out, HE.out, List.map_append]; exact hown1, hbel.trans (((Below.refl _ _).alloc (by omega) _).drew.trans hbel1)⟩, by simp [intOf]; omega⟩
    ·go_wp2_with fail
     rw [HC.out]
     refine (plain_any _ _ (by omega) hb).mono ?_
     rintro e w' ⟨rfl, rfl⟩
     rw [HP.out]
     go_wp2_with (at_builtin; refine wl_app _ el_u8 rfl _ _ rfl w.heap.size _ _ _ _ rfl (hown.alloc _) (wr.heap.size + 1) _ 1 1 [bv s[k]] rfl (Rd.lit wr _ _ 1 rfl) (bv_one [s[k]]) (by omega) (by simp; omega) ?_; intro A' c' w1 hown1 hbel1 _)
     rw [HC.out] at hown1
     have hc1 : encB c = [c] := by unfold encB plainU; rw [HP.out]; rfl
     rw [hc1] at HLE HE
     exact ⟨⟨k + 1, A', c', by omega, by go_num, by rw [HLE.out]; rfl, by rw [HLE.out, HE.out, List.map_append]; exact hown1, hbel.trans ((Below.refl _ _).alloc (by omega) _ |>.trans hbel1)⟩, by simp [intOf]; omega⟩
   ·have ht := Lib.hid (bs_take_all s k hlt)
    have hconv := run_conv (P := Try.prog) wr 22 9 5 el_u8.ht Try.underlying5 Try.underlying9 (c := c) (hown.rd)
    go_wp2
    go_ret
    exact ⟨ret_str (by rw [ht.out, hS.out]), hbel⟩

set_option maxHeartbeats 400000 in
theorem refWord_any (s : ByteArray) (w : World) (hs : s.size ≤ 10000000000) :
  Calls Try.prog 64 #[.string s] w fun e w' => e = .returned (.string ⟨(wordS (bs s)).toArray⟩) ∧ Below w.heap.size w w' := by
 have hl := encW_len (bs s)
 rw [bs_len] at hl
 by_cases h0 : bs s = []
 ·have hS : wordS (bs s) = [126] := by rw [h0]; rfl
  have hS := Lib.hid hS
  have hem : s.toList.isEmpty = true := by rw [ByteArray.toList_eq, show s.data.toList = [] from h0]; rfl
  clear h0
  go_enter Try.func64, Try.ntmps64
  go_wp2
  go_ret
  exact ⟨ret_str (by rw [hS.out]), Below.refl _ _⟩
 ·have hem : s.toList.isEmpty = false := by rw [ByteArray.toList_eq]; simpa using h0
  have hS : wordS (bs s) = encW (bs s) := by unfold wordS; rw [if_neg h0]
  have hS := Lib.hid hS
  clear h0
  go_enter Try.func64, Try.ntmps64
  go_wp2
  go_loopw [4, 5] (fun v i wr => ∃ k A c, k ≤ s.size ∧ i = .int .i64 (k : Nat) ∧ v = .slice A (encW ((bs s).take k)).length c ∧ Own wr w.heap.size 5 1 A (encW ((bs s).take k)).length c ((encW ((bs s).take k)).map bv) ∧ Below w.heap.size w wr) (fun _ i _ => s.size - (intOf i).toNat)
  case atStart =>
   exact ⟨0, _, _, Nat.zero_le _, rfl, rfl, Own.nil _ _ _ _, Below.refl _ _⟩
  case round =>
   obtain ⟨k, A, c, hk, rfl, rfl, hown, hbel⟩ := hrel
   have hl := encW_take (bs s) k
   by_cases hlt : k < s.size
   ·have hE := encW_succ s k hlt
    have hlE : (encW ((bs s).take (k + 1))).length = (encW ((bs s).take k)).length + (encB s[k]).length := by rw [hE, List.length_append]
    have HE := Lib.hid hE
    have HLE := Lib.hid hlE
    clear hE hlE
    have hb := byte_lt s[k]
    generalize hc : s[k] = c at *
    have HC := Lib.hid hc
    clear hc
    have hsz := hbel.size
    cases hp : plainB c.toNat <;> have HP := Lib.hid hp <;> clear hp
    ·go_wp2_with fail
     rw [HC.out]
     refine (refplain_any _ _ (by omega) hb).mono ?_
     rintro e w' ⟨rfl, rfl⟩
     rw [HP.out]
     go_wp2
     have hc1 : encB c = [37, hexd (c >>> 4), hexd (c &&& 15)] := by unfold encB plainU; rw [HP.out]; rfl
     rw [hc1] at HLE HE
     clear hc1
     have q0 : (0 : Int) ≤ (s[k].toNat : Int) / 16 := by omega
     have q1 : (s[k].toNat : Int) / 16 < 16 := by have := byte_lt s[k]; omega
     have q3 : (0 : Int) ≤ (s[k].toNat : Int) % 16 := by omega
     have q4 : (s[k].toNat : Int) % 16 < 16 := by omega
     have q2 := u8_and15 (x := (s[k].toNat : Int)) (by omega) (by have := byte_lt s[k]; omega)
     go_region_law (refine st_app _ el_u8 rfl _ _ rfl w.heap.size _ _ _ _ rfl (hown.alloc _).drew (wr.heap.size + 1) _ 3 3 _ rfl (Rd.lit wr _ _ 3 rfl).drew (by intro u hu; simp at hu; rcases hu with rfl | rfl | rfl <;> rfl) (by omega) (by simp; omega) ?_; intro A' c' w1 hown1 hbel1 _)
     all_goals
      simp only [hex_div, hex_mod] at hown1
      rw [HC.out] at hown1
      go_wp2
      refine ⟨⟨k + 1, A', c', by omega, by go_num, by rw [HLE.out]; rfl, by rw [HLE.out, HE.out, List.map_append]; exact hown1, hbel.trans (((Below.refl _ _).alloc (by omega) _).drew.trans hbel1)⟩, by simp [intOf]; omega⟩
    ·go_wp2_with fail
     rw [HC.out]
     refine (refplain_any _ _ (by omega) hb).mono ?_
     rintro e w' ⟨rfl, rfl⟩
     rw [HP.out]
     go_wp2_with (at_builtin; refine wl_app _ el_u8 rfl _ _ rfl w.heap.size _ _ _ _ rfl (hown.alloc _) (wr.heap.size + 1) _ 1 1 [bv s[k]] rfl (Rd.lit wr _ _ 1 rfl) (bv_one [s[k]]) (by omega) (by simp; omega) ?_; intro A' c' w1 hown1 hbel1 _)
     rw [HC.out] at hown1
     have hc1 : encB c = [c] := by unfold encB plainU; rw [HP.out]; rfl
     rw [hc1] at HLE HE
     exact ⟨⟨k + 1, A', c', by omega, by go_num, by rw [HLE.out]; rfl, by rw [HLE.out, HE.out, List.map_append]; exact hown1, hbel.trans ((Below.refl _ _).alloc (by omega) _ |>.trans hbel1)⟩, by simp [intOf]; omega⟩
   ·have ht := Lib.hid (bs_take_all s k hlt)
    have hconv := run_conv (P := Try.prog) wr 22 9 5 el_u8.ht Try.underlying5 Try.underlying9 (c := c) (hown.rd)
    go_wp2
    go_ret
    exact ⟨ret_str (by rw [ht.out, hS.out]), hbel⟩
end Go.Proofs.Ytfakjamocpamiaa

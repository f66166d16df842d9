/- Decoding of words: document.Unword. Decoding of words: the reference's Unword. -/
import Derived.Test.YtkcmaembpfakdaaGreatDoorDoc1
import Derived.Test.YtkcmaembpfakdaaGreatDoorNumF
import Derived.Deep.QuietTactic
import Derived.BigQuiet
import Derived.IntWalk
set_option linter.unusedSimpArgs false
set_option linter.unusedVariables false
set_option maxRecDepth 100000
namespace Go.Proofs.YtkcmaembpfakdaaGreatDoor
open Go Go.RowKit Go.Adm

set_option maxHeartbeats 400000 in
theorem IndexByte_any (s : ByteArray) (c : UInt8) (w : World) :
    Calls Tryz.prog 92 #[.string s, .int .u8 c.toNat] w fun e w' => e = .returned (.int .i64 (Lib.indexByte s.data.toList c)) ∧ w' = w := by
  go_enter Tryz.func92, Tryz.ntmps92
  go_wp2
  rw [run_callFunc_extern Tryz.func121 (by kernel_rfl) (by kernel_rfl) (by kernel_rfl) (e := Extern.BytealgIndexByte.indexByte) (by kernel_rfl), Lib.run_indexByteString]
  simp only [Result.andThen]
  rw [Oper.upon_value]
  go_wp2
  go_ret
  exact ⟨ret_int (by simp), rfl⟩

theorem hexI_any (c : UInt8) (w : World) :
    Calls Tryz.prog 92 #[.string ⟨#[48, 49, 50, 51, 52, 53, 54, 55, 56, 57, 65, 66, 67, 68, 69, 70]⟩, .int .u8 c.toNat] w fun e w' => e = .returned (.int .i64 (hexI c)) ∧ w' = w :=
  (IndexByte_any _ c w).mono fun _ _ h => ⟨h.1.trans (ret_int (indexByte_hexv c)), h.2⟩

/-- what decoding a word leaves -/
def UnwPost (o : Option (List UInt8)) (w : World) (e : Ending) (w' : World) : Prop :=
  e = .returned (.tuple #[.string ⟨(o.getD []).toArray⟩, .bool o.isSome]) ∧ Below w.heap.size w w'

theorem drop_at (s : ByteArray) (k : Nat) (h : k < s.size) : (bs s).drop k = s[k] :: (bs s).drop (k + 1) := by
  rw [List.drop_eq_getElem_cons (by simpa using h)]; rfl
theorem hexT_data : (⟨#[48, 49, 50, 51, 52, 53, 54, 55, 56, 57, 65, 66, 67, 68, 69, 70]⟩ : ByteArray).data.toList = hexdU := rfl

/-- the byte that two digits make -/
theorem hex_byte {a b : Nat} (ha : a < 16) (hb : b < 16) : ((UInt8.ofNat (16 * a + b)).toNat : Int) = 16 * (a : Int) + b := by
  rw [UInt8.toNat_ofNat', Nat.mod_eq_of_lt (by omega)]; omega
theorem u8_wrap {n : Int} (h0 : 0 ≤ n) (h : n ≤ 255) : IntKind.u8.wrap n = n := by rw [IntKind.wrap_u8]; omega

set_option maxHeartbeats 1000000 in
theorem Unword_any (s : ByteArray) (w : World) (hs : s.size ≤ 10000000000) :
    Calls Tryz.prog 66 #[.string s] w (UnwPost (unwordS (bs s)) w) := by
  by_cases h0 : bs s = [126]
  · have hU : Hid (unwordS (bs s) = some []) := Lib.hid (by unfold unwordS; rw [if_pos h0])
    have he : s.toList = [126] := by rw [ByteArray.toList_eq]; exact h0
    go_enter Tryz.func66, Tryz.ntmps66
    go_wp2
    go_ret2
    exact ⟨by rw [hU.out]; rfl, Below.refl _ _⟩
  · have he : (s.toList == [126]) = false := by rw [ByteArray.toList_eq]; simpa using h0
    go_enter Tryz.func66, Tryz.ntmps66
    go_wp2
    go_loopw [4, 5] (fun v i wr => ∃ k A c X, k ≤ s.size ∧ i = .int .i64 (k : Nat) ∧ v = .slice A (X : List UInt8).length c ∧ Own wr w.heap.size 5 1 A X.length c (X.map bv) ∧ Below w.heap.size w wr ∧ X.length ≤ k ∧ (k = 0 ∨ 0 < X.length) ∧ unw (bs s) = (unw ((bs s).drop k)).map (X ++ ·)) (fun _ i _ => s.size - (intOf i).toNat)
    case atStart => exact ⟨0, _, _, [], Nat.zero_le _, rfl, rfl, Own.nil _ _ _ _, Below.refl _ _, Nat.le_refl _, .inl rfl, by simp⟩
    case round =>
      obtain ⟨k, A, c, X, hk, rfl, rfl, hown, hbel, hXk, hX0, hun⟩ := hrel
      have HX0 := Lib.hid hX0
      have HU := Lib.hid hun
      have hsz := hbel.size
      clear hX0 hun
      by_cases hlt : k < s.size
      · have hD := drop_at s k hlt
        have hb := byte_lt s[k]
        have HD := Lib.hid hD
        clear hD
        cases hp : plainB (s[k].toNat : Int)
        · have HP := Lib.hid hp
          clear hp
          go_wp2_with fail
          refine (plain_any _ _ (by omega) hb).mono ?_
          rintro e w' ⟨rfl, rfl⟩
          rw [HP.out]
          by_cases h37 : s[k].toNat = 37
          · have h37' : ((s[k].toNat : Int) != 37) = false := by simp; omega
            have hc37 : s[k] = 37 := UInt8.toNat_inj.1 h37
            have HC := Lib.hid hc37
            clear h37 hc37
            by_cases hend : s.size ≤ k + 2
            · have hno : Hid (unwordS (bs s) = none) := Lib.hid (by
                unfold unwordS
                rw [if_neg h0]
                split
                · rfl
                · rw [HU.out, HD.out, HC.out, unw_short _ (by rw [List.length_drop, bs_len]; omega)]; rfl)
              go_wp2
              go_ret2
              exact ⟨by rw [hno.out]; rfl, hbel⟩
            · have hD2 : (bs s).drop (k + 1) = s[k + 1] :: s[k + 2] :: (bs s).drop (k + 3) := by rw [drop_at s (k + 1) (by omega), drop_at s (k + 2) (by omega)]
              have HD2 := Lib.hid hD2
              clear hD2
              go_wp2
              have w1 : IntKind.i64.wrap ((k : Int) + 1) = (k : Int) + 1 := IntWalk.i64_in _ (by omega)
              have w2 : IntKind.i64.wrap ((k : Int) + 2) = (k : Int) + 2 := IntWalk.i64_in _ (by omega)
              have w3 : (0 : Int) ≤ (k : Int) + 1 := by omega
              have w4 : (0 : Int) ≤ (k : Int) + 2 := by omega
              have w5 : (k : Int) + 1 < (s.size : Int) := by omega
              have w6 : (k : Int) + 2 < (s.size : Int) := by omega
              have w7 : ((k : Int) + 1).toNat = k + 1 := by omega
              have w8 : ((k : Int) + 2).toNat = k + 2 := by omega
              go_quiet ((go_at_call 92; exact Calls.quiet_of_same (hexI_any _ _)))
              clear w1 w2
              have hownq := hown.drewN nq
              have hbelq : Below w.heap.size w (wr.drewN nq) := ⟨hbel.os, hbel.tape, hbel.output, hbel.size, hbel.block⟩
              have hszq := hbelq.size
              cases hx : hexv s[k + 1] with
              | none =>
                have hno : Hid (unwordS (bs s) = none) := Lib.hid (by
                  unfold unwordS
                  rw [if_neg h0]
                  split
                  · rfl
                  · rw [HU.out, HD.out, HC.out, HD2.out, unw_bad _ _ _ (.inl hx)]; rfl)
                rw [hexI_none hx]
                go_wp2
                go_ret2
                exact ⟨by rw [hno.out]; rfl, hbelq⟩
              | some a =>
                have ha := hexv_lt hx
                rw [hexI_some hx]
                cases hy : hexv s[k + 2] with
                | none =>
                  have hno : Hid (unwordS (bs s) = none) := Lib.hid (by
                    unfold unwordS
                    rw [if_neg h0]
                    split
                    · rfl
                    · rw [HU.out, HD.out, HC.out, HD2.out, unw_bad _ _ _ (.inr hy)]; rfl)
                  rw [hexI_none hy]
                  clear hx hy
                  go_wp2
                  go_ret2
                  exact ⟨by rw [hno.out]; rfl, hbelq⟩
                | some b =>
                  have hb2 := hexv_lt hy
                  rw [hexI_some hy]
                  have HX := Lib.hid hx
                  have HY := Lib.hid hy
                  clear hx hy
                  have hbv := hex_byte ha hb2
                  have hpl : plainU (UInt8.ofNat (16 * a + b)) = plainB (16 * (a : Int) + b) := by unfold plainU; rw [hbv]
                  have HBV := Lib.hid hbv
                  have HPL := Lib.hid hpl
                  clear hbv hpl
                  go_wp2_with fail
                  refine (plain_any _ _ (by omega) (by omega)).mono ?_
                  rintro e w' ⟨rfl, rfl⟩
                  cases hp2 : plainB (16 * (a : Int) + b)
                  · have HP2 := Lib.hid hp2
                    clear hp2
                    go_wp2_with (at_builtin; refine wl_app _ el_u8 rfl _ _ rfl w.heap.size _ _ _ _ rfl (hownq.alloc _) (wr.heap.size + 1) _ 1 1 _ rfl (Rd.lit _ _ _ 1 rfl) (by intro u hu; simp at hu; rcases hu with rfl; rfl) (by omega) (by simp; omega) ?_; intro A' c' w1 hown1 hbel1 _)
                    rw [← HBV.out] at hown1
                    refine ⟨⟨k + 3, A', c', X ++ [UInt8.ofNat (16 * a + b)], by omega, by go_num, slice_len _ _ (by simp), hown1.cast (by simp) (by simp [bv]), hbelq.trans (((Below.refl _ _).alloc (by simp; omega) _).trans hbel1), by simp; omega, .inr (by simp), ?_⟩, by simp [intOf]; omega⟩
                    rw [HU.out, HD.out, HC.out, HD2.out, unw_hex _ _ _ _ _ HX.out HY.out (by rw [HPL.out]; exact HP2.out)]
                    cases unw ((bs s).drop (k + 3)) <;> simp
                  · have hno : Hid (unwordS (bs s) = none) := Lib.hid (by
                      unfold unwordS
                      rw [if_neg h0]
                      split
                      · rfl
                      · rw [HU.out, HD.out, HC.out, HD2.out, unw_stands _ _ _ _ _ HX.out HY.out (by rw [HPL.out]; exact hp2)]; rfl)
                    clear hp2
                    go_wp2
                    go_ret2
                    exact ⟨by rw [hno.out]; rfl, hbelq⟩
          · have h37' : ((s[k].toNat : Int) != 37) = true := by simp; omega
            have hno : Hid (unwordS (bs s) = none) := Lib.hid (by
              unfold unwordS
              rw [if_neg h0]
              split
              · rfl
              · rw [HU.out, HD.out, unw_odd _ _ HP.out (fun h => h37 (by rw [h]; rfl))]; rfl)
            clear h37
            go_wp2
            go_ret2
            exact ⟨by rw [hno.out]; rfl, hbel⟩
        · have HP := Lib.hid hp
          clear hp
          go_wp2_with fail
          refine (plain_any _ _ (by omega) hb).mono ?_
          rintro e w' ⟨rfl, rfl⟩
          rw [HP.out]
          go_wp2_with (at_builtin; refine wl_app _ el_u8 rfl _ _ rfl w.heap.size _ _ _ _ rfl (hown.alloc _) (wr.heap.size + 1) _ 1 1 _ rfl (Rd.lit wr _ _ 1 rfl) (bv_one [s[k]]) (by omega) (by simp; omega) ?_; intro A' c' w1 hown1 hbel1 _)
          refine ⟨⟨k + 1, A', c', X ++ [s[k]], by omega, by go_num, slice_len _ _ (by simp), hown1.cast (by simp) (by simp [bv]), hbel.trans (((Below.refl _ _).alloc (by omega) _).trans hbel1), by simp; omega, .inr (by simp), ?_⟩, by simp [intOf]; omega⟩
          rw [HU.out, HD.out, unw_plain _ _ HP.out]
          cases unw ((bs s).drop (k + 1)) <;> simp
      · have hdr : (bs s).drop k = [] := List.drop_eq_nil_of_le (by rw [bs_len]; omega)
        have hall : Hid (unw (bs s) = some X) := Lib.hid (by rw [HU.out, hdr]; simp [unw])
        clear hdr
        have hconv := run_conv (P := Tryz.prog) wr 36 9 5 el_u8.ht Tryz.underlying5 Tryz.underlying9 (c := c) hown.rd
        by_cases hX : 0 < X.length
        · have hyes : Hid (unwordS (bs s) = some X) := Lib.hid (by
            unfold unwordS
            rw [if_neg h0]
            split
            · next h => rw [h] at hall; have := hall.out; simp [unw] at this; rw [this] at hX; simp at hX
            · exact hall.out)
          go_wp2
          go_ret2
          exact ⟨by rw [hyes.out]; rfl, hbel⟩
        · have hXn : X = [] := List.eq_nil_of_length_eq_zero (by omega)
          have hno : Hid (unwordS (bs s) = none) := Lib.hid (by
            have hk0 : k = 0 := by rcases HX0.out with h | h; exact h; omega
            have : bs s = [] := List.eq_nil_of_length_eq_zero (by rw [bs_len]; omega)
            unfold unwordS
            rw [this]; rfl)
          subst hXn
          clear hconv
          have hconv := run_conv (P := Tryz.prog) wr 36 9 5 el_u8.ht Tryz.underlying5 Tryz.underlying9 (A := A) (n := 0) (c := c) (B := 0) (l := []) Rd.nil
          go_wp2
          go_ret2
          exact ⟨by rw [hno.out]; rfl, hbel⟩
end Go.Proofs.YtkcmaembpfakdaaGreatDoor
set_option linter.unusedSimpArgs false
set_option linter.unusedVariables false
set_option maxRecDepth 100000
namespace Go.Proofs.YtkcmaembpfakdaaGreatDoor
open Go Go.RowKit Go.Adm

set_option maxHeartbeats 400000 in
theorem value_any (c : UInt8) (w : World) :
    Calls Tryz.prog 84 #[.int .u8 c.toNat] w fun e w' => e = .returned (.int .i64 (hexJ c)) ∧ w' = w := by
  have hb := byte_lt c
  by_cases h1 : 48 ≤ c.toNat ∧ c.toNat ≤ 57
  · have hE : Hid (hexJ c = (c.toNat : Int) - 48) := Lib.hid (hexJ_dec h1)
    obtain ⟨h1, h2⟩ := h1
    go_enter Tryz.func84, Tryz.ntmps84
    go_wp2
    go_ret
    exact ⟨ret_int hE.out.symm, rfl⟩
  · by_cases h2 : 65 ≤ c.toNat ∧ c.toNat ≤ 70
    · have hE : Hid (hexJ c = (c.toNat : Int) - 55) := Lib.hid (hexJ_let h2)
      clear h1
      obtain ⟨h1, h2⟩ := h2
      go_enter Tryz.func84, Tryz.ntmps84
      go_wp2
      go_ret
      exact ⟨ret_int (by rw [hE.out]; omega), rfl⟩
    · have hE : Hid (hexJ c = 16) := Lib.hid (hexJ_no h1 h2)
      have H1 := Lib.hid h1
      have H2 := Lib.hid h2
      clear h1 h2
      go_enter Tryz.func84, Tryz.ntmps84
      go_wp2
      all_goals
        first
        | (go_ret
           exact ⟨ret_int hE.out.symm, rfl⟩)
        | (exfalso; have h1 := H1.out; have h2 := H2.out; omega)

set_option maxHeartbeats 1000000 in
theorem refUnword_any (s : ByteArray) (w : World) (hs : s.size ≤ 10000000000) :
    Calls Tryz.prog 56 #[.string s] w (UnwPost (unwordS (bs s)) w) := by
  by_cases h0 : bs s = [126]
  · have hU : Hid (unwordS (bs s) = some []) := Lib.hid (by unfold unwordS; rw [if_pos h0])
    have he : s.toList = [126] := by rw [ByteArray.toList_eq]; exact h0
    go_enter Tryz.func56, Tryz.ntmps56
    go_wp2
    go_ret2
    exact ⟨by rw [hU.out]; rfl, Below.refl _ _⟩
  · have he : (s.toList == [126]) = false := by rw [ByteArray.toList_eq]; simpa using h0
    by_cases hs0 : s.size = 0
    · have hem : s.toList.isEmpty = true := by
        rw [ByteArray.toList_eq, List.eq_nil_of_length_eq_zero (show s.data.toList.length = 0 by have := bs_len s; simp only [bs] at this; omega)]; rfl
      have hno : Hid (unwordS (bs s) = none) := Lib.hid (by
        have : bs s = [] := List.eq_nil_of_length_eq_zero (by rw [bs_len]; omega)
        unfold unwordS
        rw [this]; rfl)
      clear hs0
      go_enter Tryz.func56, Tryz.ntmps56
      go_wp2
      go_ret2
      exact ⟨by rw [hno.out]; rfl, Below.refl _ _⟩
    have hem : s.toList.isEmpty = false := by rw [ByteArray.toList_eq]; simp; intro he; have : s.size = 0 := by rw [← bs_len, bs, he]; rfl
                                              omega
    go_enter Tryz.func56, Tryz.ntmps56
    go_wp2
    go_loopw [4, 5] (fun v i wr => ∃ k A c X, k ≤ s.size ∧ i = .int .i64 (k : Nat) ∧ v = .slice A (X : List UInt8).length c ∧ Own wr w.heap.size 5 1 A X.length c (X.map bv) ∧ Below w.heap.size w wr ∧ X.length ≤ k ∧ (k = 0 ∨ 0 < X.length) ∧ unw (bs s) = (unw ((bs s).drop k)).map (X ++ ·)) (fun _ i _ => s.size - (intOf i).toNat)
    case atStart => exact ⟨0, _, _, [], Nat.zero_le _, rfl, rfl, Own.nil _ _ _ _, Below.refl _ _, Nat.le_refl _, .inl rfl, by simp⟩
    case round =>
      obtain ⟨k, A, c, X, hk, rfl, rfl, hown, hbel, hXk, hX0, hun⟩ := hrel
      have HX0 := Lib.hid hX0
      have HU := Lib.hid hun
      have hsz := hbel.size
      clear hX0 hun
      by_cases hlt : k < s.size
      · have hD := drop_at s k hlt
        have hb := byte_lt s[k]
        have HD := Lib.hid hD
        clear hD
        cases hp : plainB (s[k].toNat : Int)
        · have HP := Lib.hid hp
          clear hp
          go_wp2_with fail
          refine (refplain_any _ _ (by omega) hb).mono ?_
          rintro e w' ⟨rfl, rfl⟩
          rw [HP.out]
          by_cases h37 : s[k].toNat = 37
          · have h37' : ((s[k].toNat : Int) != 37) = false := by simp; omega
            have hc37 : s[k] = 37 := UInt8.toNat_inj.1 h37
            have HC := Lib.hid hc37
            clear h37 hc37
            by_cases hend : s.size ≤ k + 2
            · have hno : Hid (unwordS (bs s) = none) := Lib.hid (by
                unfold unwordS
                rw [if_neg h0]
                split
                · rfl
                · rw [HU.out, HD.out, HC.out, unw_short _ (by rw [List.length_drop, bs_len]; omega)]; rfl)
              go_wp2
              go_ret2
              exact ⟨by rw [hno.out]; rfl, hbel⟩
            · have hD2 : (bs s).drop (k + 1) = s[k + 1] :: s[k + 2] :: (bs s).drop (k + 3) := by rw [drop_at s (k + 1) (by omega), drop_at s (k + 2) (by omega)]
              have HD2 := Lib.hid hD2
              clear hD2
              go_wp2
              have w1 : IntKind.i64.wrap ((k : Int) + 1) = (k : Int) + 1 := IntWalk.i64_in _ (by omega)
              have w2 : IntKind.i64.wrap ((k : Int) + 2) = (k : Int) + 2 := IntWalk.i64_in _ (by omega)
              have w3 : (0 : Int) ≤ (k : Int) + 1 := by omega
              have w4 : (0 : Int) ≤ (k : Int) + 2 := by omega
              have w5 : (k : Int) + 1 < (s.size : Int) := by omega
              have w6 : (k : Int) + 2 < (s.size : Int) := by omega
              have w7 : ((k : Int) + 1).toNat = k + 1 := by omega
              have w8 : ((k : Int) + 2).toNat = k + 2 := by omega
              go_quiet ((go_at_call 84; exact Calls.quiet_of_same (value_any _ _)))
              clear w1 w2
              have hownq := hown.drewN nq
              have hbelq : Below w.heap.size w (wr.drewN nq) := ⟨hbel.os, hbel.tape, hbel.output, hbel.size, hbel.block⟩
              have hszq := hbelq.size
              cases hx : hexv s[k + 1] with
              | none =>
                have hno : Hid (unwordS (bs s) = none) := Lib.hid (by
                  unfold unwordS
                  rw [if_neg h0]
                  split
                  · rfl
                  · rw [HU.out, HD.out, HC.out, HD2.out, unw_bad _ _ _ (.inl hx)]; rfl)
                rw [hexJ_none hx]
                go_wp2
                go_ret2
                exact ⟨by rw [hno.out]; rfl, hbelq⟩
              | some a =>
                have ha := hexv_lt hx
                rw [hexJ_some hx]
                have hax : ((a : Int) == 16) = false := by simp; omega
                cases hy : hexv s[k + 2] with
                | none =>
                  have hno : Hid (unwordS (bs s) = none) := Lib.hid (by
                    unfold unwordS
                    rw [if_neg h0]
                    split
                    · rfl
                    · rw [HU.out, HD.out, HC.out, HD2.out, unw_bad _ _ _ (.inr hy)]; rfl)
                  rw [hexJ_none hy]
                  clear hx hy
                  go_wp2
                  go_ret2
                  exact ⟨by rw [hno.out]; rfl, hbelq⟩
                | some b =>
                  have hb2 := hexv_lt hy
                  rw [hexJ_some hy]
                  have hbx : ((b : Int) == 16) = false := by simp; omega
                  have HX := Lib.hid hx
                  have HY := Lib.hid hy
                  clear hx hy
                  have hbv := hex_byte ha hb2
                  have hpl : plainU (UInt8.ofNat (16 * a + b)) = plainB (16 * (a : Int) + b) := by unfold plainU; rw [hbv]
                  have HBV := Lib.hid hbv
                  have HPL := Lib.hid hpl
                  clear hbv hpl
                  go_wp2_with fail
                  refine (refplain_any _ _ (by omega) (by omega)).mono ?_
                  rintro e w' ⟨rfl, rfl⟩
                  cases hp2 : plainB (16 * (a : Int) + b)
                  · have HP2 := Lib.hid hp2
                    clear hp2
                    go_wp2_with (at_builtin; refine wl_app _ el_u8 rfl _ _ rfl w.heap.size _ _ _ _ rfl (hownq.alloc _) (wr.heap.size + 1) _ 1 1 _ rfl (Rd.lit _ _ _ 1 rfl) (by intro u hu; simp at hu; rcases hu with rfl; rfl) (by omega) (by simp; omega) ?_; intro A' c' w1 hown1 hbel1 _)
                    rw [← HBV.out] at hown1
                    refine ⟨⟨k + 3, A', c', X ++ [UInt8.ofNat (16 * a + b)], by omega, by go_num, slice_len _ _ (by simp), hown1.cast (by simp) (by simp [bv]), hbelq.trans (((Below.refl _ _).alloc (by simp; omega) _).trans hbel1), by simp; omega, .inr (by simp), ?_⟩, by simp [intOf]; omega⟩
                    rw [HU.out, HD.out, HC.out, HD2.out, unw_hex _ _ _ _ _ HX.out HY.out (by rw [HPL.out]; exact HP2.out)]
                    cases unw ((bs s).drop (k + 3)) <;> simp
                  · have hno : Hid (unwordS (bs s) = none) := Lib.hid (by
                      unfold unwordS
                      rw [if_neg h0]
                      split
                      · rfl
                      · rw [HU.out, HD.out, HC.out, HD2.out, unw_stands _ _ _ _ _ HX.out HY.out (by rw [HPL.out]; exact hp2)]; rfl)
                    clear hp2
                    go_wp2
                    go_ret2
                    exact ⟨by rw [hno.out]; rfl, hbelq⟩
          · have h37' : ((s[k].toNat : Int) != 37) = true := by simp; omega
            have hno : Hid (unwordS (bs s) = none) := Lib.hid (by
              unfold unwordS
              rw [if_neg h0]
              split
              · rfl
              · rw [HU.out, HD.out, unw_odd _ _ HP.out (fun h => h37 (by rw [h]; rfl))]; rfl)
            clear h37
            go_wp2
            go_ret2
            exact ⟨by rw [hno.out]; rfl, hbel⟩
        · have HP := Lib.hid hp
          clear hp
          go_wp2_with fail
          refine (refplain_any _ _ (by omega) hb).mono ?_
          rintro e w' ⟨rfl, rfl⟩
          rw [HP.out]
          go_wp2_with (at_builtin; refine wl_app _ el_u8 rfl _ _ rfl w.heap.size _ _ _ _ rfl (hown.alloc _) (wr.heap.size + 1) _ 1 1 _ rfl (Rd.lit wr _ _ 1 rfl) (bv_one [s[k]]) (by omega) (by simp; omega) ?_; intro A' c' w1 hown1 hbel1 _)
          refine ⟨⟨k + 1, A', c', X ++ [s[k]], by omega, by go_num, slice_len _ _ (by simp), hown1.cast (by simp) (by simp [bv]), hbel.trans (((Below.refl _ _).alloc (by omega) _).trans hbel1), by simp; omega, .inr (by simp), ?_⟩, by simp [intOf]; omega⟩
          rw [HU.out, HD.out, unw_plain _ _ HP.out]
          cases unw ((bs s).drop (k + 1)) <;> simp
      · have hdr : (bs s).drop k = [] := List.drop_eq_nil_of_le (by rw [bs_len]; omega)
        have hall : Hid (unw (bs s) = some X) := Lib.hid (by rw [HU.out, hdr]; simp [unw])
        clear hdr
        have hconv := run_conv (P := Tryz.prog) wr 36 9 5 el_u8.ht Tryz.underlying5 Tryz.underlying9 (c := c) hown.rd
        have hyes : Hid (unwordS (bs s) = some X) := Lib.hid (by
          unfold unwordS
          rw [if_neg h0]
          split
          · next h => exact absurd (by rw [← bs_len, h]; rfl) hs0
          · exact hall.out)
        go_wp2
        go_ret2
        exact ⟨by rw [hyes.out]; rfl, hbel⟩
end Go.Proofs.YtkcmaembpfakdaaGreatDoor

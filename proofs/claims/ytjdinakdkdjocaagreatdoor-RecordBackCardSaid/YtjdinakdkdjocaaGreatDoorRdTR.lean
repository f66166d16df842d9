/- Taking lines off a list. The readers of records: closures over the lines, rows cloned. -/
import Derived.Test.YtjdinakdkdjocaaGreatDoorGen2
import Derived.Test.YtjdinakdkdjocaaGreatDoorRec6
set_option linter.unusedSimpArgs false
set_option linter.unusedVariables false
set_option maxRecDepth 100000
namespace Go.AdR
open Go Go.RowKit Go.Adm
/-- the first line, where it begins with a word -/
def takeS (word : ByteArray) : List (List ByteArray) → Option (List ByteArray × List (List ByteArray))
  | (t :: l) :: rest => if t = word then some (l, rest) else none
  | _ => none
theorem toList_inj {a b : ByteArray} (h : a.toList = b.toList) : a = b := by
  rw [ByteArray.toList_eq, ByteArray.toList_eq] at h
  cases a
  cases b
  simp only at h
  rw [Array.toList_inj.1 h]
theorem lines_tail {w : World} {B n c : Nat} {A : Option Addr} {l : List ByteArray} {ls : List (List ByteArray)} (h : Lines w B A n (l :: ls)) (hnc : n ≤ c) : Lines w B (if c = 1 then A else A.map (·.add 1)) (n - 1) ls := by
  have hl := h.len
  rw [List.length_cons] at hl
  obtain ⟨vs, hr, hv⟩ := h.rows
  have hc := hr.cut (k := 1) (cap := c) (by omega) hnc
  refine ⟨by omega, by have := h.le; omega, vs.drop 1, by simpa using hc, fun k hk => ?_⟩
  obtain ⟨A', c', h1, h2, h3, h4⟩ := hv (k + 1) (by simpa using hk)
  refine ⟨A', c', ?_, h2, h3, h4⟩
  rw [List.getElem?_drop, Nat.add_comm]
  exact h1
theorem strs_tail {w : World} {B n c : Nat} {A : Option Addr} {t : ByteArray} {l : List ByteArray} (h : Strs w B A n (t :: l)) (hnc : n ≤ c) : Strs w B (if c = 1 then A else A.map (·.add 1)) (n - 1) l := by
  have hl := h.len
  rw [List.length_cons] at hl
  have hc := h.rd.cut (k := 1) (cap := c) (by omega) hnc
  exact ⟨by simpa using hc, fun s hs => h.small s (List.mem_cons_of_mem _ hs)⟩
end Go.AdR
namespace Go.Proofs.YtjdinakdkdjocaaGreatDoor
open Go Go.RowKit Go.Adm Go.AdR
def TakePost (word : ByteArray) (gl B n c : Nat) (ls : List (List ByteArray)) (w : World) (e : Ending) (w' : World) : Prop :=
  (takeS word ls = none ∧ e = .returned (.tuple #[.slice none 0 0, .bool false]) ∧ w' = w) ∨
  ∃ l rest A1 c1 A', takeS word ls = some (l, rest) ∧ e = .returned (.tuple #[.slice A1 l.length c1, .bool true]) ∧ l.length ≤ c1 ∧ c1 ≤ maxLen ∧ w' = w.setCell ⟨gl, 0, none⟩ (.slice A' (n - 1) (c - 1)) ∧ Strs w B A1 l.length l ∧ Lines w B A' (n - 1) rest
set_option maxHeartbeats 1600000 in
theorem take_any (word : ByteArray) (w : World) (gl B : Nat) (A : Option Addr) (n c : Nat) (ls : List (List ByteArray)) (hC : Cells w gl 47 [.slice A n c]) (hL : Lines w B A n ls) (hnc : n ≤ c) (hcm : c ≤ maxLen) (hne : ∀ l ∈ ls, l ≠ []) :
    Calls Tryz.prog 51 #[.string word, .pointer (some ⟨gl, 0, none⟩)] w (TakePost word gl B n c ls w) := by
  have c0 : w.cell? ⟨gl, 0, none⟩ = some (.slice A n c) := Cells.cell hC (i := 0) (by simp)
  have f0 : w.frozen? ⟨gl, 0, none⟩ = false := Cells.frozen hC 0
  have hcm' : c ≤ 9223372036854775807 := hcm
  clear hC
  cases ls with
  | nil =>
    obtain rfl : n = 0 := hL.len.symm
    clear hL
    go_enter Tryz.func51, Tryz.ntmps51
    go_wp2_with fail
    go_ret2
    exact .inl ⟨rfl, rfl, rfl⟩
  | cons l0 ls =>
    have hn : ls.length + 1 = n := by have := hL.len; simpa using this
    obtain ⟨vs, hr, hv⟩ := hL.rows
    obtain ⟨A0, q0, h1, h2, h3, h4⟩ := hv 0 (by simp)
    obtain ⟨ad, rfl, hadB, hc⟩ := hr.at_ (by omega)
    have r0 : w.cell? (ad.add 0) = some (.slice A0 l0.length q0) := hc 0 _ h1
    rw [add_zero] at r0
    have hl0 := hne l0 List.mem_cons_self
    cases l0 with
    | nil => exact absurd rfl hl0
    | cons t l =>
      obtain ⟨ad0, rfl, had0, hs0, hz0⟩ := h4.at_ (k := 0) (by simp)
      rw [add_zero] at hs0
      simp only [List.length_cons] at r0 h2 h4
      have d0 : decide ((n : Int) = 0) = false := by simp; omega
      have wk1 : (0 : Int) < (n : Int) := by omega
      have wk2 : (0 : Int) < ((l.length + 1 : Nat) : Int) := by omega
      have HLT := Lib.hid (lines_tail hL hnc)
      have HST := Lib.hid (strs_tail h4 h2)
      have hq0 : q0 ≤ 9223372036854775807 := h3
      simp only [List.getElem_cons_zero, List.length_cons] at h2
      by_cases ht : t = word
      · subst ht
        clear hL hv hr h1 hc hne
        have HQ : Hid (l.length + 1 ≤ q0 ∧ q0 ≤ maxLen) := Lib.hid ⟨h2, h3⟩
        by_cases k1 : c = 1
        · by_cases k2 : q0 = 1
          · go_enter Tryz.func51, Tryz.ntmps51
            go_wp2_with fail
            go_ret2
            have hq := HQ.out
            refine .inr ⟨l, ls, _, _, some ad, by simp [takeS], rfl, by omega, by omega, by rw [k1], ?_, ?_⟩
            · have h := HST.out
              simp only [if_pos, if_neg, k2, Nat.add_sub_cancel, if_true, if_false, Option.map_some] at h
              exact h
            · have h := HLT.out
              simp only [if_pos, if_neg, k1, if_true, if_false, Option.map_some] at h
              exact h
          · go_enter Tryz.func51, Tryz.ntmps51
            go_wp2_with fail
            go_ret2
            have hq := HQ.out
            refine .inr ⟨l, ls, _, _, some ad, by simp [takeS], rfl, by omega, by omega, by rw [k1], ?_, ?_⟩
            · have h := HST.out
              simp only [if_pos, if_neg, k2, Nat.add_sub_cancel, if_true, if_false, Option.map_some] at h
              exact h
            · have h := HLT.out
              simp only [if_pos, if_neg, k1, if_true, if_false, Option.map_some] at h
              exact h
        · by_cases k2 : q0 = 1
          · go_enter Tryz.func51, Tryz.ntmps51
            go_wp2_with fail
            go_ret2
            have hq := HQ.out
            refine .inr ⟨l, ls, _, _, _, by simp [takeS], rfl, by omega, by omega, rfl, ?_, ?_⟩
            · have h := HST.out
              simp only [if_pos, if_neg, k2, Nat.add_sub_cancel, if_true, if_false, Option.map_some] at h
              exact h
            · have h := HLT.out
              simp only [if_pos, if_neg, k1, if_true, if_false, Option.map_some] at h
              exact h
          · go_enter Tryz.func51, Tryz.ntmps51
            go_wp2_with fail
            go_ret2
            have hq := HQ.out
            refine .inr ⟨l, ls, _, _, _, by simp [takeS], rfl, by omega, by omega, rfl, ?_, ?_⟩
            · have h := HST.out
              simp only [if_pos, if_neg, k2, Nat.add_sub_cancel, if_true, if_false, Option.map_some] at h
              exact h
            · have h := HLT.out
              simp only [if_pos, if_neg, k1, if_true, if_false, Option.map_some] at h
              exact h
      · have e2 : (t.toList == word.toList) = false := by
          rw [beq_eq_false_iff_ne]
          exact fun h => ht (Go.AdR.toList_inj h)
        have HT : Hid (takeS word ((t :: l) :: ls) = none) := Lib.hid (by simp [takeS, ht])
        clear hL hv hr h1 hc hne ht
        go_enter Tryz.func51, Tryz.ntmps51
        go_wp2_with fail
        go_ret2
        exact .inl ⟨HT.out, rfl, rfl⟩
end Go.Proofs.YtjdinakdkdjocaaGreatDoor
set_option linter.unusedSimpArgs false
set_option linter.unusedVariables false
set_option maxRecDepth 100000
namespace Go.Proofs.YtjdinakdkdjocaaGreatDoor
open Go Go.RowKit Go.Adm Go.AdR
/-- a closure over the box of the lines -/
def clo (f gl : Nat) : Value := .func (.func f) #[] #[.pointer (some ⟨gl, 0, none⟩)]
set_option maxHeartbeats 1600000 in
theorem taker_any (w : World) (A : Option Addr) (n c : Nat) :
    Calls Tryz.prog 21 #[.slice A n c] w fun e w' => e = .returned (.tuple #[clo 51 w.heap.size, clo 52 w.heap.size]) ∧ w' = w.alloc (.cells #[.slice A n c] 47) := by
  go_enter Tryz.func21, Tryz.ntmps21
  go_wp2_with fail
  go_ret2
  exact ⟨rfl, rfl⟩
set_option maxHeartbeats 1600000 in
theorem done_any (w : World) (gl : Nat) (A : Option Addr) (n c : Nat) (hC : Cells w gl 47 [.slice A n c]) :
    Calls Tryz.prog 52 #[.pointer (some ⟨gl, 0, none⟩)] w fun e w' => e = .returned (.bool (decide (n = 0))) ∧ w' = w := by
  have c0 : w.cell? ⟨gl, 0, none⟩ = some (.slice A n c) := Cells.cell hC (i := 0) (by simp)
  clear hC
  by_cases h0 : n = 0
  · subst h0
    go_enter Tryz.func52, Tryz.ntmps52
    go_wp2_with fail
    go_ret
    exact ⟨rfl, rfl⟩
  · have d0 : decide ((n : Int) = 0) = false := by simp; omega
    have d1 : decide (n = 0) = false := by simp [h0]
    have d2 : ((n : Int) == 0) = false := by simp; omega
    go_enter Tryz.func52, Tryz.ntmps52
    go_wp2_with fail
    go_ret
    exact ⟨ret_bool (by simp [h0]), rfl⟩
theorem el_strD : ElemOf Tryz.prog 27 9 (.string ByteArray.empty) 1 16 := ElemOf.mk' Tryz.underlying27 (by kernel_rfl) rfl (by decide) (by decide)
set_option maxHeartbeats 1600000 in
theorem CloneS_any (w : World) (B : Nat) (A : Option Addr) (n c : Nat) (l : List ByteArray) (h : Strs w B A n l) (hn2 : n ≤ 1000000) (hB : B ≤ w.heap.size) :
    Calls Tryz.prog 54 #[.slice A n c] w fun e w' => ∃ A' c', e = .returned (.slice A' n c') ∧ Below w.heap.size w w' ∧ Go.Adm.Own w' w.heap.size 9 1 A' n c' (l.map sv) := by
  have hn := h.len
  have q23 : ∀ (w : World) (a : Option Addr) (n c n' c' : Nat), (binOp .eql 27 (.slice a n c) (.slice none n' c')).run Tryz.prog w = .ok (.bool a.isNone) w := fun w a n c n' c' => Lib.run_eql_slice_nil w _ _ a n c n' c' Tryz.underlying27
  cases A with
  | none =>
    have hn0 : n = 0 := by
      rcases Nat.eq_zero_or_pos n with h0 | h0
      · exact h0
      · obtain ⟨ad, e, _⟩ := h.rd.at_ h0; cases e
    subst hn0
    have hl : l = [] := List.eq_nil_of_length_eq_zero hn
    subst hl
    clear h
    go_enter Tryz.func54, Tryz.ntmps54
    go_wp2_with fail
    go_ret
    exact ⟨none, 0, rfl, Below.refl _ _, Go.Adm.Own.nil _ _ _ _⟩
  | some ad =>
    have hown0 : Go.Adm.Own (w.alloc (.cells #[] 9)) w.heap.size 9 1 (some ⟨w.heap.size, 0, none⟩) 0 0 [] := Go.Adm.Own.lit w #[] 0 (Nat.le_refl _) (by decide) rfl
    have hrx : Rd (w.alloc (.cells #[] 9)) B 1 (some ad) n (l.map sv) := h.rd.alloc hB _
    clear h hn
    go_enter Tryz.func54, Tryz.ntmps54
    go_wp2_with (refine wl_app _ el_strD rfl (.tmp 5) (.tmp 6) rfl w.heap.size _ 0 0 [] rfl hown0 B _ n c (l.map sv) rfl hrx (by intro u hu; obtain ⟨s, _, rfl⟩ := List.mem_map.1 hu; rfl) (by omega) (by simp) ?_; intro A3 c3 w3 hown3 hb3 hg3)
    go_ret
    have hown4 := hown3.cast (Nat.zero_add n) (List.nil_append _)
    exact ⟨A3, c3, rfl, ((Below.refl _ w).alloc (Nat.le_refl _) _).trans hb3, hown4⟩
end Go.Proofs.YtjdinakdkdjocaaGreatDoor

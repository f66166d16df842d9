/- The laws on names and encoded forms: the walks. -/
import Derived.Test.YtlgjhcaenmbekaaDoc5
import Derived.Test.YtlgjhcaenmbekaaDoc6
namespace Go.Proofs.Ytlgjhcaenmbekaa
open Go Go.RowKit Go.Adm

/-- what Encode left, as a list of bytes whichever way it went -/
def encL (ls : List (List ByteArray)) : List UInt8 := if docE ls = 0 then encD ls else []
theorem EncPost.rd {ls : List (List ByteArray)} {w w' : World} {e : Ending} (h : EncPost 5 ls w e w') :
    ∃ A n c, e = .returned (.tuple #[.slice A n c, .int .i64 (docE ls)]) ∧ Below w.heap.size w w' ∧ Rd w' w'.heap.size 1 A n ((encL ls).map bv) := by
  obtain ⟨A, n, c, rfl, hb, h1, h2⟩ := h
  refine ⟨A, n, c, rfl, hb, ?_⟩
  unfold encL
  by_cases h0 : docE ls = 0
  · rw [if_pos h0]; exact (h1 h0).rd
  · rw [if_neg h0]
    obtain ⟨rfl, rfl, rfl⟩ := h2 h0
    exact Rd.nil

theorem conv_bytes {w : World} {B : Nat} {A : Option Addr} {n c : Nat} {l : List UInt8} (h : Rd w B 1 A n (l.map bv)) : (convert 24 9 (.slice A n c)).run Try.prog w = .ok (.string ⟨l.toArray⟩) w :=
  run_conv (P := Try.prog) w 24 9 5 el_u8.ht Try.underlying5 Try.underlying9 h

set_option maxHeartbeats 800000 in
theorem walkNames (s : ByteArray) (w : World) (hs : s.size ≤ 140737488355328) :
    Calls Try.prog 5 #[.string s] w fun e w' => e = .returned (.bool true) ∧ Below w.heap.size w w' := by
  by_cases h1 : 300 < s.size
  · go_enter Try.func5, Try.ntmps5
    go_wp2
    go_ret
    exact ⟨rfl, Below.refl _ _⟩
  · go_enter Try.func5, Try.ntmps5
    go_wp2_with fail
    refine (awake_any _).mono ?_
    rintro e w1 ⟨rfl, hb1⟩
    go_wp2_with fail
    refine (Name_any _ _ hs).mono ?_
    rintro e w2 ⟨rfl, rfl⟩
    go_wp2_with fail
    refine (refName_any _ _ hs).mono ?_
    rintro e w2 ⟨rfl, rfl⟩
    go_wp2
    go_ret
    exact ⟨rfl, hb1⟩

set_option maxHeartbeats 800000 in
theorem walkEncodes (w : World) (A : Option Addr) (n c : Nat) (ls : List (List ByteArray)) (h : Lines w w.heap.size A n ls) :
    Calls Try.prog 3 #[.slice A n c] w fun e w' => e = .returned (.bool true) ∧ Below w.heap.size w w' := by
  have H := Lib.hid h
  clear h
  go_enter Try.func3, Try.ntmps3
  go_wp2_with fail
  refine (light_any _ w.heap.size _ _ _ ls H.out).mono ?_
  rintro e w1 ⟨b, rfl, _, rfl⟩
  cases b
  · go_wp2
    go_ret
    exact ⟨rfl, Below.refl _ _⟩
  · go_wp2_with fail
    refine (Encode_any _ w.heap.size _ _ _ ls H.out (Nat.le_refl _)).mono fun e w1 h1 => ?_
    obtain ⟨A1, n1, c1, rfl, hb1, hr1⟩ := EncPost.rd h1
    clear h1
    have hs1 := hb1.size
    go_wp2_with fail
    refine (refEncode_any _ w.heap.size _ _ _ ls (H.out.below hb1 (Nat.le_refl _)) hs1).mono fun e w2 h2 => ?_
    obtain ⟨A2, n2, c2, rfl, hb2, hr2⟩ := EncPost.rd h2
    clear h2
    have hr1' := hr1.below hb2 (Nat.le_refl _)
    have hs2 := hb2.size
    go_wp2_with fail
    refine (awake_any _).mono ?_
    rintro e w3 ⟨rfl, hb3⟩
    have c1 := conv_bytes (c := c1) (hr1'.below hb3 (by omega))
    have c2 := conv_bytes (c := c2) (hr2.below hb3 (by omega))
    clear hr1 hr2 hr1'
    go_wp2
    go_ret
    exact ⟨rfl, hb1.trans ((hb2.mono hs1).trans (hb3.mono (by omega)))⟩
end Go.Proofs.Ytlgjhcaenmbekaa

/- The law on joined documents: the walk. -/
import Derived.Test.YtlgjhcaenmbekaaDoc7
import Derived.Test.YtlgjhcaenmbekaaDocSpec4
namespace Go.Proofs.Ytlgjhcaenmbekaa
open Go Go.RowKit Go.Adm

theorem el_line : ElemOf Try.prog 22 35 (.slice none 0 0) 1 24 := ElemOf.mk' Try.underlying22 (by kernel_rfl) rfl (by decide) (by decide)

/-- the rows of a document: what its cells hold -/
def RowsOf (w : World) (B : Nat) (vs : List Value) (ls : List (List ByteArray)) : Prop :=
  vs.length = ls.length ∧ ∀ k (h : k < ls.length), ∃ A' c', vs[k]? = some (.slice A' ls[k].length c') ∧ ls[k].length ≤ c' ∧ c' ≤ 140737488355328 ∧ Strs w B A' ls[k].length ls[k]
theorem linesSplit {w : World} {B n : Nat} {A : Option Addr} {ls : List (List ByteArray)} (h : Lines w B A n ls) : ∃ vs, Rd w B 1 A n vs ∧ RowsOf w B vs ls := by
  obtain ⟨vs, hr, hv⟩ := h.rows
  exact ⟨vs, hr, by have := hr.len; have := h.len; omega, hv⟩
theorem linesJoin {w : World} {B n : Nat} {A : Option Addr} {vs : List Value} {ls : List (List ByteArray)} (hr : Rd w B 1 A n vs) (h : RowsOf w B vs ls) (hn : n ≤ 140737488355328) : Lines w B A n ls :=
  ⟨by have := hr.len; have := h.1; omega, hn, vs, hr, h.2⟩
theorem RowsOf.move {w w' : World} {B B' : Nat} {vs : List Value} {ls : List (List ByteArray)} (h : RowsOf w B vs ls) (hb : Below B w w') (hB : B ≤ B') : RowsOf w' B' vs ls :=
  ⟨h.1, fun k hk => by
    obtain ⟨A', c', h1, h2, h3, h4⟩ := h.2 k hk
    exact ⟨A', c', h1, h2, h3, (h4.below hb (Nat.le_refl _)).mono hB⟩⟩
theorem RowsOf.app {w : World} {B : Nat} {vs us : List Value} {ls ms : List (List ByteArray)} (h : RowsOf w B vs ls) (k : RowsOf w B us ms) : RowsOf w B (vs ++ us) (ls ++ ms) := by
  refine ⟨by simp [h.1, k.1], fun i hi => ?_⟩
  rcases Nat.lt_or_ge i ls.length with hl | hl
  · obtain ⟨A', c', h1, h2, h3, h4⟩ := h.2 i hl
    have e : (ls ++ ms)[i] = ls[i] := List.getElem_append_left hl
    rw [e]
    exact ⟨A', c', by rw [List.getElem?_append_left (by rw [h.1]; exact hl)]; exact h1, h2, h3, h4⟩
  · obtain ⟨A', c', h1, h2, h3, h4⟩ := k.2 (i - ls.length) (by simp at hi; omega)
    have e : (ls ++ ms)[i] = ms[i - ls.length]'(by simp at hi; omega) := List.getElem_append_right hl
    rw [e]
    exact ⟨A', c', by rw [List.getElem?_append_right (by rw [h.1]; exact hl), h.1]; exact h1, h2, h3, h4⟩
theorem RowsOf.one {w : World} {B : Nat} {vs : List Value} {ls : List (List ByteArray)} (h : RowsOf w B vs ls) : ∀ u ∈ vs, u.oneCell' = true := by
  intro u hu
  obtain ⟨i, hi, rfl⟩ := List.getElem_of_mem hu
  obtain ⟨A', c', h1, _⟩ := h.2 i (by rw [← h.1]; exact hi)
  rw [List.getElem?_eq_getElem hi] at h1
  rw [Option.some.inj h1]
  rfl

theorem cat_str (a b : List UInt8) : (⟨a.toArray⟩ : ByteArray) ++ ⟨b.toArray⟩ = ⟨(a ++ b).toArray⟩ := by
  apply ByteArray.ext
  simp

set_option maxHeartbeats 1000000 in
theorem walkJoins (w : World) (A : Option Addr) (n c : Nat) (A' : Option Addr) (n' c' : Nat) (la lb : List (List ByteArray)) (ha : Lines w w.heap.size A n la) (hb : Lines w w.heap.size A' n' lb) :
    Calls Try.prog 4 #[.slice A n c, .slice A' n' c'] w fun e w' => e = .returned (.bool true) ∧ Below w.heap.size w w' := by
  have HA := Lib.hid ha
  have HB := Lib.hid hb
  clear ha hb
  go_enter Try.func4, Try.ntmps4
  go_wp2_with fail
  refine (light_any _ w.heap.size _ _ _ la HA.out).mono ?_
  rintro e w1 ⟨b, rfl, hla, rfl⟩
  cases b
  · go_wp2
    go_ret
    exact ⟨rfl, Below.refl _ _⟩
  go_wp2_with fail
  refine (light_any _ w.heap.size _ _ _ lb HB.out).mono ?_
  rintro e w1 ⟨b, rfl, hlb, rfl⟩
  cases b
  · go_wp2
    go_ret
    exact ⟨rfl, Below.refl _ _⟩
  have hn1 : n ≤ 1200 := by rw [← HA.out.len]; exact (hla (by simp)).1
  have hn2 : n' ≤ 1200 := by rw [← HB.out.len]; exact (hlb (by simp)).1
  clear hla hlb
  go_wp2_with fail
  refine (Encode_any _ w.heap.size _ _ _ la HA.out (Nat.le_refl _)).mono fun e w1 h1 => ?_
  obtain ⟨A1, m1, c1, rfl, hb1, hr1⟩ := EncPost.rd h1
  clear h1
  have hs1 := hb1.size
  go_wp2_with fail
  refine (Encode_any _ w.heap.size _ _ _ lb (HB.out.below hb1 (Nat.le_refl _)) hs1).mono fun e w2 h2 => ?_
  obtain ⟨A2, m2, c2, rfl, hb2, hr2⟩ := EncPost.rd h2
  clear h2
  have hB2 : Below w.heap.size w w2 := hb1.trans (hb2.mono hs1)
  have hs2 := hb2.size
  have hR1 := Lib.hid ((hr1.below hb2 (Nat.le_refl _)).mono hs2)
  have hR2 := Lib.hid hr2
  clear hr1 hr2
  obtain ⟨vs, hv, hvr⟩ := linesSplit HA.out
  obtain ⟨us, hu, hur⟩ := linesSplit HB.out
  have HV := Lib.hid hv
  have HVR := Lib.hid hvr
  have HUU := Lib.hid hu
  have HUR := Lib.hid hur
  clear hv hvr hu hur
  have hB3 : Below w.heap.size w (w2.alloc (.cells #[] 35)) := hB2.alloc (by omega) _
  go_wp2_with (at_builtin; first | (refine wl_app _ el_line rfl (.tmp 30) _ rfl (w2.heap.size) _ _ _ [] rfl (Own.lit w2 #[] 0 (Nat.le_refl _) (by decide) rfl) w.heap.size _ _ _ vs rfl (HV.out.below hB3 (Nat.le_refl _)) HVR.out.one (by omega) (by simp) ?_; intro A3 c3 w3 hown3a hbel3 _; have hown3 := hown3a.cast (Nat.zero_add n) (List.nil_append vs); clear hown3a; have hB4 := hB3.trans (hbel3.mono (by omega)); have hs3 := hbel3.size; clear hB3) | (refine wl_app _ el_line rfl (.tmp 32) _ rfl (w2.heap.size) _ _ _ _ rfl hown3 w.heap.size _ _ _ us rfl (HUU.out.below hB4 (Nat.le_refl _)) HUR.out.one (by omega) (by simp at hs3; omega) ?_; intro A4 c4 w4 hown4 hbel4 _))
  have hB5 := hB4.trans (hbel4.mono (by omega))
  have hK : Below w2.heap.size w2 w4 := ((Below.refl _ _).alloc (Nat.le_refl _) _).trans (hbel3.trans hbel4)
  clear hbel3 hbel4 hown3 hB4
  have hs5 := hB5.size
  have hL := linesJoin hown4.rd ((HVR.out.move hB5 hs5).app (HUR.out.move hB5 hs5)) (by omega)
  clear hown4
  have HLL := Lib.hid hL
  clear hL
  refine (Encode_any _ w4.heap.size _ _ _ (la ++ lb) HLL.out (Nat.le_refl _)).mono fun e w5 h5 => ?_
  obtain ⟨A5, m5, c5, rfl, hb5, hr5⟩ := EncPost.rd h5
  clear h5
  have hB6 : Below w.heap.size w w5 := hB5.trans (hb5.mono hs5)
  have hK5 : Below w2.heap.size w2 w5 := hK.trans (hb5.mono hK.size)
  have hs6 := hB6.size
  have hk6 := hK5.size
  have HR5 := Lib.hid hr5
  clear hr5 hb5 hK hB5
  by_cases hea : docE la = 0
  · by_cases heb : docE lb = 0
    · have hcase := docE_app_both hea heb
      have hea0 : (docE la != 0) = false := by simp [hea]
      have heb0 : (docE lb != 0) = false := by simp [heb]
      have HEA := Lib.hid hea
      have HEB := Lib.hid heb
      clear hea heb
      go_wp2_with fail
      refine (awake_any _).mono ?_
      rintro e w6 ⟨rfl, hb6⟩
      have hfin := hB6.trans (hb6.mono hs6)
      rcases hcase with hg | hg
      · rw [hg]
        go_wp2
        go_ret
        exact ⟨rfl, hfin⟩
      · have hx := conv_bytes (c := c1) ((hR1.out.below hK5 (Nat.le_refl _)).below hb6 hk6)
        have hy := conv_bytes (c := c2) ((hR2.out.below hK5 (Nat.le_refl _)).below hb6 hk6)
        have hz := conv_bytes (c := c5) (HR5.out.below hb6 (Nat.le_refl _))
        have e1 : encL la = encD la := by unfold encL; rw [if_pos HEA.out]
        have e2 : encL lb = encD lb := by unfold encL; rw [if_pos HEB.out]
        have e3 : encL (la ++ lb) = encD la ++ encD lb := by unfold encL; rw [if_pos hg, encD_append]
        rw [e1] at hx
        rw [e2] at hy
        rw [e3, ← cat_str] at hz
        rw [hg]
        have z1 : (⟨(encD la).toArray⟩ : ByteArray).size ≤ 262144 := by rw [bsize]; have := (docE_zero HEA.out).2.2; omega
        have z2 : (⟨(encD lb).toArray⟩ : ByteArray).size ≤ 262144 := by rw [bsize]; have := (docE_zero HEB.out).2.2; omega
        generalize (⟨(encD la).toArray⟩ : ByteArray) = sa at *
        generalize (⟨(encD lb).toArray⟩ : ByteArray) = sb at *
        clear e1 e2 e3 hg hR1 hR2
        go_wp2
        go_ret
        exact ⟨rfl, hfin⟩
    · have hg : (docE (la ++ lb) != 0) = true := by simpa using docE_app_right hea heb
      have hea0 : (docE la != 0) = false := by simp [hea]
      have heb0 : (docE lb != 0) = true := by simpa using heb
      clear hea heb
      go_wp2_with fail
      refine (awake_any _).mono ?_
      rintro e w6 ⟨rfl, hb6⟩
      have hfin := hB6.trans (hb6.mono hs6)
      go_wp2
      go_ret
      exact ⟨rfl, hfin⟩
  · have hg : (docE (la ++ lb) != 0) = true := by simpa using docE_app_left hea
    have hea0 : (docE la != 0) = true := by simpa using hea
    clear hea
    go_wp2_with fail
    refine (awake_any _).mono ?_
    rintro e w6 ⟨rfl, hb6⟩
    have hfin := hB6.trans (hb6.mono hs6)
    go_wp2
    go_ret
    exact ⟨rfl, hfin⟩
end Go.Proofs.Ytlgjhcaenmbekaa

/- What is signed: the message of an envelope. -/
import Derived.Test.YtfakjamocpamiaaShaA
import Derived.Test.YtfakjamocpamiaaDoc4
import Derived.Test.YtfakjamocpamiaaDoc5
import Derived.Test.YtfakjamocpamiaaSto15
set_option linter.unusedSimpArgs false
set_option linter.unusedVariables false
set_option maxRecDepth 100000
namespace Go.Adm
open Go Go.RowKit
def sEnv : ByteArray := ⟨#[101, 110, 118, 101, 108, 111, 112, 101]⟩
/-- the document that is signed -/
def msgD (kind : ByteArray) (p : List UInt8) : List (List ByteArray) := [[sEnv, kind, ⟨p.toArray⟩]]
/-- the message -/
def msgS (kind : ByteArray) (p : List UInt8) : List UInt8 := if docE (msgD kind p) = 0 then shaS (encD (msgD kind p)) else z32
theorem msgS_len (kind : ByteArray) (p : List UInt8) : (msgS kind p).length = 32 := by
 unfold msgS
 split
 ·exact shaS_len _
 ·rfl
theorem lineE_of {w : World} {bL c7 : Nat} {t t2 : TypeId} {A7 : Option Addr} {ss : List ByteArray} (h : Own w bL t 1 A7 ss.length c7 (ss.map sv)) (hs : ∀ s ∈ ss, s.size ≤ 140737488355328) :
  Lines (w.alloc (.cells #[.slice A7 ss.length c7] t2)) (w.heap.size + 1) (some ⟨w.heap.size, 0, none⟩) 1 [ss] := by
 refine ⟨rfl, by decide, [.slice A7 ss.length c7], Rd.lit w #[.slice A7 ss.length c7] t2 1 rfl, fun k hk => ?_⟩
 obtain rfl : k = 0 := by simp at hk; omega
 exact ⟨A7, c7, rfl, h.cap.1, h.cap.2, (h.rd.alloc (Nat.le_refl _) _).mono (Nat.le_succ _), hs⟩
end Go.Adm
namespace Go.Proofs.Ytfakjamocpamiaa
open Go Go.RowKit Go.Adm
theorem el_bE : ElemOf Try.prog 22 5 (.int .u8 0) 1 1 := ElemOf.mk' Try.underlying22 (by kernel_rfl) rfl (by decide) (by decide)
theorem conv_e {w : World} {B : Nat} {A : Option Addr} {n c : Nat} {b : List UInt8} (h : Rd w B 1 A n (b.map bv)) : (convert 22 9 (.slice A n c)).run Try.prog w = .ok (.string ⟨b.toArray⟩) w :=
 run_conv (P := Try.prog) w 22 9 5 el_bE.ht Try.underlying5 Try.underlying9 h
set_option maxHeartbeats 3200000 in
theorem Message_any (w : World) (B : Nat) (kind : ByteArray) (A : Option Addr) (n c : Nat) (p : List UInt8) (hp : Rd w B 1 A n (p.map bv)) (hk : kind.size ≤ 140737488355328) (hn : n ≤ 140737488355328) (hB : B ≤ w.heap.size) :
  Calls Try.prog 17 #[.string kind, .slice A n c] w fun e w' => e = .returned (.agg ((msgS kind p).map bv).toArray) ∧ Below w.heap.size w w' := by
 have hR : All w [.low (.rd B 1 A n (p.map bv)), .kept w w.heap.size] := ⟨⟨hp, hB⟩, ⟨Below.refl _ _, Nat.le_refl _⟩, trivial⟩
 have hpl : p.length = n := by have := hp.len; simpa using this
 have hzr := zero_dg
 clear hp
 go_enter Try.func17, Try.ntmps17
 go_upto_region 1 with (fail)
 obtain ⟨gr, hgr⟩ : ∃ g, g = w.heap.size := ⟨_, rfl⟩
 have hI0 := hR.new (l := z32.map bv) _ 37 hgr rfl
 simp only [← hgr]
 have hgw : w.heap.size ≤ gr := by omega
 have hgB : B ≤ gr := by omega
 clear hR hgr
 refine wp_gen hI0 ?_
 clear hI0
 intro W1 hI0
 obtain ⟨sp, hsp⟩ : ∃ s : ByteArray, s = ⟨p.toArray⟩ := ⟨_, rfl⟩
 have q1 : (convert 22 9 (.slice A n c)).run Try.prog W1 = .ok (.string sp) W1 := by rw [hsp]; exact conv_e (hI0.at_ 1 rfl : Rd W1 B 1 A n (p.map bv) ∧ _).1
 obtain ⟨sE, hsE⟩ : ∃ s : ByteArray, s = sEnv := ⟨_, rfl⟩
 have hsE2 : (⟨#[101, 110, 118, 101, 108, 111, 112, 101]⟩ : ByteArray) = sE := by rw [hsE]; rfl
 have hsz : sE.size ≤ 140737488355328 := by rw [hsE]; decide
 have hmd : msgD kind p = [[sE, kind, sp]] := by unfold msgD; rw [hsp, hsE]
 have hspz : sp.size ≤ 140737488355328 := by
  rw [hsp]
  show p.toArray.size ≤ _
  rw [List.size_toArray, hpl]; exact hn
 have HMD := Lib.hid hmd
 clear hmd hsp hsE
 have hown : Go.Adm.Own (W1.alloc (.cells #[.string sE, .string kind, .string sp] 9)) W1.heap.size 9 1 (some ⟨W1.heap.size, 0, none⟩) 3 3 ([sE, kind, sp].map sv) := Go.Adm.Own.lit W1 #[.string sE, .string kind, .string sp] 3 (Nat.le_refl _) (by decide) rfl
 have hli := lineE_of (t2 := 77) hown (fun s hs => by
  rcases List.mem_cons.1 hs with h | hs
  ·rw [h]; exact hsz
  ·rcases List.mem_cons.1 hs with h | hs
   ·rw [h]; exact hk
   ·rw [List.mem_singleton.1 hs]; exact hspz)
 have hI2 := (hI0.alloc (.cells #[.string sE, .string kind, .string sp] 9)).alloc (.cells #[.slice (some ⟨W1.heap.size, 0, none⟩) 3 3] 77)
 have hs1 : (W1.alloc (.cells #[.string sE, .string kind, .string sp] 9)).heap.size = W1.heap.size + 1 := by simp
 rw [hs1] at hli
 have hen := Encode_any _ _ _ 1 1 [[sE, kind, sp]] hli (by simp)
 clear hown hli hs1 hsz hspz
 go_upto_region 2 with (go_at_call 35; refine hen.mono ?_; clear hen; rintro e w3 ⟨A3, n3, c3, rfl, hb3, hO3, hN3⟩; have hI3 := hI2.call hb3; clear hI2 hb3 q1)
 rw [← HMD.out] at hO3 hN3 ⊢
 by_cases hz : docE (msgD kind p) = 0
 ·have ho := hO3 hz
  have HMS : Hid (msgS kind p = shaS (encD (msgD kind p))) := Lib.hid (by unfold msgS; rw [if_pos hz])
  have hcap := ho.cap
  have hnl : (encD (msgD kind p)).length ≤ 262144 := by
   rcases Nat.lt_or_ge 262144 (encD (msgD kind p)).length with h1 | h1
   ·unfold docE at hz
    rw [if_neg (by simp [msgD])] at hz
    by_cases h2 : linesE (msgD kind p) ≠ 0
    ·rw [if_pos h2] at hz; exact absurd hz h2
    ·rw [if_neg h2, if_pos h1] at hz; exact absurd hz (by decide)
   ·exact h1
  have hn3 : n3 = (encD (msgD kind p)).length := by have := ho.rd.len; simp at this; omega
  have hsu := ShaSum_any w3 w3.heap.size A3 n3 c3 (encD (msgD kind p)) ho.rd (Nat.le_refl _) (by omega) hcap.1 hcap.2
  rw [← HMS.out] at hsu
  obtain ⟨d, hd⟩ : ∃ d, msgS kind p = d := ⟨_, rfl⟩
  rw [hd] at hsu
  have HLN : Hid (d.length = 32) := Lib.hid (by rw [← hd]; exact msgS_len kind p)
  have HDD := Lib.hid hd
  clear hd
  have HQ := Lib.hid hn3
  rw [hz]
  clear ho hO3 hN3 hcap hnl hn3 hz HMS
  go_wp2_with (first
   | (go_at_call 36; refine hsu.mono ?_; clear hsu; rintro e w4 ⟨rfl, hb4⟩; have hI4 := hI3.call hb4; clear hI3 hb4)
   | (refine wl_store_at hI4 0 rfl 37 (.tmp 4) (.tmp 20) rfl gr _ _ (d.map bv) rfl rfl rfl (by rw [List.length_map, HLN.out]; rfl) (by rw [List.length_map, HLN.out]; kernel_rfl) (bv_one _) ⟨fun g e => (by injection e with e; subst e; exact hgB), fun g e => (by injection e with e; subst e; exact hgw), trivial⟩ ?_; intro W9 hI9 hs9; simp only [List.set_cons_zero] at hI9))
  refine bodyPost_ret (v := .agg (d.map bv).toArray) ?_ rfl ⟨by rw [HDD.out], (hI9.at_ 2 rfl).1⟩
  exact results_cell_row rfl _ _ gr 37 (d.map bv).toArray (0, 0) _ rfl (hI9.at_ 0 rfl) Try.underlying37 rfl (by rw [List.size_toArray, List.length_map, HLN.out]; kernel_rfl)
 ·have HMS : Hid (msgS kind p = z32) := Lib.hid (by unfold msgS; rw [if_neg hz])
  have dz : (docE (msgD kind p) == 0) = false := by simp [hz]
  have dz2 : (docE (msgD kind p) != 0) = true := by simp [hz]
  clear hO3 hN3
  generalize docE (msgD kind p) = eD at *
  go_wp2_with (refine wl_store_at hI3 0 rfl 37 (.tmp 4) (.tmp 18) rfl gr _ _ (z32.map bv) rfl rfl rfl (by rfl) (by kernel_rfl) (bv_one _) ⟨fun g e => (by injection e with e; subst e; exact hgB), fun g e => (by injection e with e; subst e; exact hgw), trivial⟩ ?_; intro W9 hI9 hs9; simp only [List.set_cons_zero] at hI9)
  refine bodyPost_ret (v := .agg (z32.map bv).toArray) ?_ rfl ⟨by rw [HMS.out], (hI9.at_ 2 rfl).1⟩
  exact results_cell_row rfl _ _ gr 37 (z32.map bv).toArray (0, 0) _ rfl (hI9.at_ 0 rfl) Try.underlying37 rfl (by kernel_rfl)
set_option maxHeartbeats 3200000 in
theorem refMessage_any (w : World) (B : Nat) (kind : ByteArray) (A : Option Addr) (n c : Nat) (p : List UInt8) (hp : Rd w B 1 A n (p.map bv)) (hk : kind.size ≤ 140737488355328) (hn : n ≤ 140737488355328) (hB : B ≤ w.heap.size) :
  Calls Try.prog 18 #[.string kind, .slice A n c] w fun e w' => e = .returned (.agg ((msgS kind p).map bv).toArray) ∧ Below w.heap.size w w' := by
 have hR : All w [.low (.rd B 1 A n (p.map bv)), .kept w w.heap.size] := ⟨⟨hp, hB⟩, ⟨Below.refl _ _, Nat.le_refl _⟩, trivial⟩
 have hpl : p.length = n := by have := hp.len; simpa using this
 have hzr := zero_dg
 clear hp
 go_enter Try.func18, Try.ntmps18
 go_upto_region 1 with (fail)
 obtain ⟨gr, hgr⟩ : ∃ g, g = w.heap.size := ⟨_, rfl⟩
 have hI0 := hR.new (l := z32.map bv) _ 37 hgr rfl
 simp only [← hgr]
 have hgw : w.heap.size ≤ gr := by omega
 have hgB : B ≤ gr := by omega
 clear hR hgr
 refine wp_gen hI0 ?_
 clear hI0
 intro W1 hI0
 obtain ⟨sp, hsp⟩ : ∃ s : ByteArray, s = ⟨p.toArray⟩ := ⟨_, rfl⟩
 have q1 : (convert 22 9 (.slice A n c)).run Try.prog W1 = .ok (.string sp) W1 := by rw [hsp]; exact conv_e (hI0.at_ 1 rfl : Rd W1 B 1 A n (p.map bv) ∧ _).1
 obtain ⟨sE, hsE⟩ : ∃ s : ByteArray, s = sEnv := ⟨_, rfl⟩
 have hsE2 : (⟨#[101, 110, 118, 101, 108, 111, 112, 101]⟩ : ByteArray) = sE := by rw [hsE]; rfl
 have hsz : sE.size ≤ 140737488355328 := by rw [hsE]; decide
 have hmd : msgD kind p = [[sE, kind, sp]] := by unfold msgD; rw [hsp, hsE]
 have hspz : sp.size ≤ 140737488355328 := by
  rw [hsp]
  show p.toArray.size ≤ _
  rw [List.size_toArray, hpl]; exact hn
 have HMD := Lib.hid hmd
 clear hmd hsp hsE
 have hown : Go.Adm.Own (W1.alloc (.cells #[.string sE, .string kind, .string sp] 9)) W1.heap.size 9 1 (some ⟨W1.heap.size, 0, none⟩) 3 3 ([sE, kind, sp].map sv) := Go.Adm.Own.lit W1 #[.string sE, .string kind, .string sp] 3 (Nat.le_refl _) (by decide) rfl
 have hli := lineE_of (t2 := 77) hown (fun s hs => by
  rcases List.mem_cons.1 hs with h | hs
  ·rw [h]; exact hsz
  ·rcases List.mem_cons.1 hs with h | hs
   ·rw [h]; exact hk
   ·rw [List.mem_singleton.1 hs]; exact hspz)
 have hI2 := (hI0.alloc (.cells #[.string sE, .string kind, .string sp] 9)).alloc (.cells #[.slice (some ⟨W1.heap.size, 0, none⟩) 3 3] 77)
 have hs1 : (W1.alloc (.cells #[.string sE, .string kind, .string sp] 9)).heap.size = W1.heap.size + 1 := by simp
 rw [hs1] at hli
 have hen := refEncode_any _ _ _ 1 1 [[sE, kind, sp]] hli (by simp)
 clear hown hli hs1 hsz hspz
 go_upto_region 2 with (go_at_call 37; refine hen.mono ?_; clear hen; rintro e w3 ⟨A3, n3, c3, rfl, hb3, hO3, hN3⟩; have hI3 := hI2.call hb3; clear hI2 hb3 q1)
 rw [← HMD.out] at hO3 hN3 ⊢
 by_cases hz : docE (msgD kind p) = 0
 ·have ho := hO3 hz
  have HMS : Hid (msgS kind p = shaS (encD (msgD kind p))) := Lib.hid (by unfold msgS; rw [if_pos hz])
  have hcap := ho.cap
  have hnl : (encD (msgD kind p)).length ≤ 262144 := by
   rcases Nat.lt_or_ge 262144 (encD (msgD kind p)).length with h1 | h1
   ·unfold docE at hz
    rw [if_neg (by simp [msgD])] at hz
    by_cases h2 : linesE (msgD kind p) ≠ 0
    ·rw [if_pos h2] at hz; exact absurd hz h2
    ·rw [if_neg h2, if_pos h1] at hz; exact absurd hz (by decide)
   ·exact h1
  have hn3 : n3 = (encD (msgD kind p)).length := by have := ho.rd.len; simp at this; omega
  have hsu := refSum_any w3 w3.heap.size A3 n3 c3 (encD (msgD kind p)) ho.rd (Nat.le_refl _) (by omega)
  rw [← HMS.out] at hsu
  obtain ⟨d, hd⟩ : ∃ d, msgS kind p = d := ⟨_, rfl⟩
  rw [hd] at hsu
  have HLN : Hid (d.length = 32) := Lib.hid (by rw [← hd]; exact msgS_len kind p)
  have HDD := Lib.hid hd
  clear hd
  have HQ := Lib.hid hn3
  rw [hz]
  clear ho hO3 hN3 hcap hnl hn3 hz HMS
  go_wp2_with (first
   | (go_at_call 38; refine hsu.mono ?_; clear hsu; rintro e w4 ⟨rfl, hb4⟩; have hI4 := hI3.call hb4; clear hI3 hb4)
   | (refine wl_store_at hI4 0 rfl 37 (.tmp 4) (.tmp 20) rfl gr _ _ (d.map bv) rfl rfl rfl (by rw [List.length_map, HLN.out]; rfl) (by rw [List.length_map, HLN.out]; kernel_rfl) (bv_one _) ⟨fun g e => (by injection e with e; subst e; exact hgB), fun g e => (by injection e with e; subst e; exact hgw), trivial⟩ ?_; intro W9 hI9 hs9; simp only [List.set_cons_zero] at hI9))
  refine bodyPost_ret (v := .agg (d.map bv).toArray) ?_ rfl ⟨by rw [HDD.out], (hI9.at_ 2 rfl).1⟩
  exact results_cell_row rfl _ _ gr 37 (d.map bv).toArray (0, 0) _ rfl (hI9.at_ 0 rfl) Try.underlying37 rfl (by rw [List.size_toArray, List.length_map, HLN.out]; kernel_rfl)
 ·have HMS : Hid (msgS kind p = z32) := Lib.hid (by unfold msgS; rw [if_neg hz])
  have dz : (docE (msgD kind p) == 0) = false := by simp [hz]
  have dz2 : (docE (msgD kind p) != 0) = true := by simp [hz]
  clear hO3 hN3
  generalize docE (msgD kind p) = eD at *
  go_wp2_with (refine wl_store_at hI3 0 rfl 37 (.tmp 4) (.tmp 18) rfl gr _ _ (z32.map bv) rfl rfl rfl (by rfl) (by kernel_rfl) (bv_one _) ⟨fun g e => (by injection e with e; subst e; exact hgB), fun g e => (by injection e with e; subst e; exact hgw), trivial⟩ ?_; intro W9 hI9 hs9; simp only [List.set_cons_zero] at hI9)
  refine bodyPost_ret (v := .agg (z32.map bv).toArray) ?_ rfl ⟨by rw [HMS.out], (hI9.at_ 2 rfl).1⟩
  exact results_cell_row rfl _ _ gr 37 (z32.map bv).toArray (0, 0) _ rfl (hI9.at_ 0 rfl) Try.underlying37 rfl (by kernel_rfl)
end Go.Proofs.Ytfakjamocpamiaa

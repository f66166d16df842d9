/- The revision of a snapshot, both sides. The law SnapshotRevisions. -/
import Derived.Test.YtieobkgdkiahbaaDoorHexA
import Derived.Test.YtieobkgdkiahbaaDoorSnap3
import Derived.Test.YtieobkgdkiahbaaDoorRef2
import Derived.Test.YtieobkgdkiahbaaDoorDocA
import Derived.Test.YtieobkgdkiahbaaDoorShaA
import Derived.Test.YtieobkgdkiahbaaDoorLaw1
set_option linter.unusedSimpArgs false
set_option linter.unusedVariables false
set_option maxRecDepth 100000
namespace Go.Adm
open Go Go.RowKit
/-- what Encode left, as a list of bytes whichever way it went -/
def encL (ls : List (List ByteArray)) : List UInt8 := if docE ls = 0 then encD ls else []
theorem encL_short (ls : List (List ByteArray)) : (encL ls).length ≤ 262144 := by
  unfold encL
  by_cases h : docE ls = 0
  · rw [if_pos h]
    unfold docE at h
    split at h
    · cases h
    · split at h
      · next h2 => exact absurd h h2
      · split at h
        · cases h
        · omega
  · rw [if_neg h]; simp
theorem EncPost.full {u8 : TypeId} {ls : List (List ByteArray)} {w w' : World} {e : Ending} (h : EncPost u8 ls w e w') :
    ∃ A n c, e = .returned (.tuple #[.slice A n c, .int .i64 (docE ls)]) ∧ Below w.heap.size w w' ∧ Rd w' w'.heap.size 1 A n ((encL ls).map bv) ∧ n ≤ c ∧ c ≤ maxLen ∧ n = (encL ls).length := by
  obtain ⟨A, n, c, rfl, hb, h1, h2⟩ := h
  refine ⟨A, n, c, rfl, hb, ?_⟩
  unfold encL
  by_cases h0 : docE ls = 0
  · rw [if_pos h0]
    have h3 := h1 h0
    exact ⟨h3.rd, h3.cap.1, h3.cap.2, by have := h3.rd.len; simpa using this.symm⟩
  · rw [if_neg h0]
    obtain ⟨rfl, rfl, rfl⟩ := h2 h0
    exact ⟨Rd.nil, Nat.le_refl _, Nat.zero_le _, rfl⟩
def fileT : ByteArray := ⟨#[102, 105, 108, 101]⟩
def revS (l : List E) : List UInt8 := if validB l then shaS (encL (entLs fileT l)) else z32
end Go.Adm
namespace Go.Proofs.YtieobkgdkiahbaaDoor
open Go Go.RowKit Go.Adm

set_option maxHeartbeats 1600000 in
theorem Revision_any (w : World) (B : Nat) (A : Option Addr) (n c : Nat) (l : List E) (hl : Els w B 33 A n (l.map entC)) (h32 : ∀ e ∈ l, E32 e) (hn : l.length = n) (hn2 : n ≤ 1000000) (hB : B ≤ w.heap.size) :
    Calls Tryd.prog 38 #[.slice A n c] w fun e w' => e = .returned (.agg ((revS l).map bv).toArray) ∧ Below w.heap.size w w' := by
  have hR : All w [.low (.els B 33 A n (l.map entC)), .kept w w.heap.size] := ⟨⟨hl, hB⟩, ⟨Below.refl _ _, Nat.le_refl _⟩, trivial⟩
  have HN := Lib.hid hn
  have H32 := Lib.hid h32
  have hzl : (z32.map bv).length = 32 := rfl
  clear hl h32 hn
  go_enter Tryd.func38, Tryd.ntmps38
  go_upto_region 1 with (fail)
  refine wp_gen (hR.new (l := z32.map bv) _ 58 rfl rfl) ?_
  intro W1 hW1
  clear hR
  go_wp2_with fail
  refine (Valid_any _ B A n c l (hW1.at_ 1 rfl : _ ∧ _).1 H32.out HN.out hn2 (hW1.at_ 1 rfl : _ ∧ _).2).mono ?_
  rintro e w1 ⟨rfl, hb1⟩
  have hW2 := hW1.call hb1
  clear hW1 hb1
  cases hv : validB l with
  | false =>
    have HF : Hid (revS l = z32) := Lib.hid (by unfold revS; rw [hv]; rfl)
    clear hv
    go_wp2_with (refine wl_store_at hW2 0 rfl 58 (.tmp 2) _ rfl w.heap.size _ _ (z32.map bv) rfl rfl rfl rfl (by kernel_rfl) (bv_one _) (by simp [Apart, Res.apart, Low.els] <;> omega) ?_; intro w9 hI9 hs9)
    refine bodyPost_ret (v := .agg (z32.map bv).toArray) ?_ rfl ⟨by rw [HF.out], (hI9.at_ 2 rfl).1⟩
    exact results_cell_row rfl _ _ w.heap.size 58 (z32.map bv).toArray (0, 0) _ rfl (hI9.at_ 0 rfl) Tryd.underlying58 rfl (by kernel_rfl)
  | true =>
    have HF : Hid (revS l = shaS (encL (entLs fileT l))) := Lib.hid (by unfold revS; rw [hv]; rfl)
    clear hv
    have hli := Lines_any fileT (by decide) w1 B A n c l (hW2.at_ 1 rfl : _ ∧ _).1 H32.out HN.out hn2 (hW2.at_ 1 rfl : _ ∧ _).2
    go_wp2_with fail
    refine hli.mono ?_
    clear hli
    rintro e w2 ⟨A2, c2, rfl, hc2, hb2, hl2⟩
    have hW3 := hW2.call hb2
    clear hW2 hb2
    have HL2 := Lib.hid hl2
    clear hl2
    go_wp2_with fail
    refine (Encode_any _ _ A2 n c2 _ HL2.out (Nat.le_refl _)).mono fun e w3 he => ?_
    obtain ⟨A3, n3, c3, rfl, hb3, hr3, hc3, hc4, hn3⟩ := he.full
    clear he HL2
    have hW4 := hW3.call hb3
    clear hW3 hb3
    have hn3' : n3 ≤ 262144 := by have := encL_short (entLs fileT l); omega
    clear hn3
    go_wp2_with fail
    refine (ShaSum_any _ _ A3 n3 c3 _ hr3 (Nat.le_refl _) (by have := encL_short (entLs fileT l); omega) hc3 hc4).mono ?_
    rintro e w4 ⟨rfl, hb4⟩
    have hW5 := hW4.call hb4
    clear hW4 hb4 hr3
    have H32r : Hid (((shaS (encL (entLs fileT l))).map bv).length = 32) := Lib.hid (by rw [List.length_map, shaS_len])
    rw [← HF.out] at H32r
    rw [← HF.out]
    clear HF
    obtain ⟨r, hr⟩ : ∃ r, revS l = r := ⟨_, rfl⟩
    have HR := Lib.hid hr
    rw [hr] at H32r ⊢
    clear hr
    go_wp2_with (refine wl_store_at hW5 0 rfl 58 (.tmp 2) _ rfl w.heap.size _ _ (r.map bv) rfl rfl rfl H32r.out (by rw [H32r.out]; kernel_rfl) (bv_one _) (by simp [Apart, Res.apart, Low.els] <;> omega) ?_; intro w9 hI9 hs9)
    refine bodyPost_ret (v := .agg (r.map bv).toArray) ?_ rfl ⟨by rw [HR.out], (hI9.at_ 2 rfl).1⟩
    exact results_cell_row rfl _ _ w.heap.size 58 (r.map bv).toArray (0, 0) _ rfl (hI9.at_ 0 rfl) Tryd.underlying58 rfl (by rw [List.size_toArray, H32r.out]; kernel_rfl)
set_option maxHeartbeats 1600000 in
theorem refRevision_any (w : World) (m : Int) (hm : w.cell? ⟨0, 0, none⟩ = some (.int .i64 m)) (B : Nat) (A : Option Addr) (n c : Nat) (l : List E) (hl : Els w B 33 A n (l.map entC)) (h32 : ∀ e ∈ l, E32 e) (hn : l.length = n) (hn2 : n ≤ 1000000) (hB : B ≤ w.heap.size) :
    Calls Tryd.prog 39 #[.slice A n c] w fun e w' => e = .returned (.agg ((revS l).map bv).toArray) ∧ Below w.heap.size w w' := by
  have hR : All w [.low (.els B 33 A n (l.map entC)), .kept w w.heap.size] := ⟨⟨hl, hB⟩, ⟨Below.refl _ _, Nat.le_refl _⟩, trivial⟩
  have HMM : ∀ W, Below w.heap.size w W → W.cell? ⟨0, 0, none⟩ = some (.int .i64 m) := fun W hb => (hb.cell (World.block_lt_of_cell? w _ hm)).trans hm
  have HN := Lib.hid hn
  have H32 := Lib.hid h32
  have hzl : (z32.map bv).length = 32 := rfl
  clear hl h32 hn hm
  go_enter Tryd.func39, Tryd.ntmps39
  go_upto_region 1 with (fail)
  refine wp_gen (hR.new (l := z32.map bv) _ 58 rfl rfl) ?_
  intro W1 hW1
  clear hR
  go_wp2_with fail
  refine (refValid_any _ m (HMM _ (hW1.at_ 2 rfl).1) B A n c l (hW1.at_ 1 rfl : _ ∧ _).1 H32.out HN.out hn2 (hW1.at_ 1 rfl : _ ∧ _).2).mono ?_
  rintro e w1 ⟨rfl, hb1⟩
  have hW2 := hW1.call hb1
  clear hW1 hb1
  cases hv : validB l with
  | false =>
    have HF : Hid (revS l = z32) := Lib.hid (by unfold revS; rw [hv]; rfl)
    clear hv
    go_wp2_with (refine wl_store_at hW2 0 rfl 58 (.tmp 2) _ rfl w.heap.size _ _ (z32.map bv) rfl rfl rfl rfl (by kernel_rfl) (bv_one _) (by simp [Apart, Res.apart, Low.els] <;> omega) ?_; intro w9 hI9 hs9)
    refine bodyPost_ret (v := .agg (z32.map bv).toArray) ?_ rfl ⟨by rw [HF.out], (hI9.at_ 2 rfl).1⟩
    exact results_cell_row rfl _ _ w.heap.size 58 (z32.map bv).toArray (0, 0) _ rfl (hI9.at_ 0 rfl) Tryd.underlying58 rfl (by kernel_rfl)
  | true =>
    have HF : Hid (revS l = shaS (encL (entLs fileT l))) := Lib.hid (by unfold revS; rw [hv]; rfl)
    clear hv
    have hli := refLines_any fileT (by decide) w1 B A n c l (hW2.at_ 1 rfl : _ ∧ _).1 H32.out HN.out hn2 (hW2.at_ 1 rfl : _ ∧ _).2
    go_wp2_with fail
    refine hli.mono ?_
    clear hli
    rintro e w2 ⟨A2, c2, rfl, hc2, hb2, hl2⟩
    have hW3 := hW2.call hb2
    clear hW2 hb2
    have HL2 := Lib.hid hl2
    clear hl2
    go_wp2_with fail
    refine (refEncode_any _ _ A2 n c2 _ HL2.out (Nat.le_refl _)).mono fun e w3 he => ?_
    obtain ⟨A3, n3, c3, rfl, hb3, hr3, hc3, hc4, hn3⟩ := he.full
    clear he HL2
    have hW4 := hW3.call hb3
    clear hW3 hb3
    have hn3' : n3 ≤ 262144 := by have := encL_short (entLs fileT l); omega
    clear hn3
    go_wp2_with fail
    refine (refSum_any _ _ A3 n3 c3 _ hr3 (Nat.le_refl _) (by have := encL_short (entLs fileT l); omega)).mono ?_
    rintro e w4 ⟨rfl, hb4⟩
    have hW5 := hW4.call hb4
    clear hW4 hb4 hr3
    have H32r : Hid (((shaS (encL (entLs fileT l))).map bv).length = 32) := Lib.hid (by rw [List.length_map, shaS_len])
    rw [← HF.out] at H32r
    rw [← HF.out]
    clear HF
    obtain ⟨r, hr⟩ : ∃ r, revS l = r := ⟨_, rfl⟩
    have HR := Lib.hid hr
    rw [hr] at H32r ⊢
    clear hr
    go_wp2_with (refine wl_store_at hW5 0 rfl 58 (.tmp 2) _ rfl w.heap.size _ _ (r.map bv) rfl rfl rfl H32r.out (by rw [H32r.out]; kernel_rfl) (bv_one _) (by simp [Apart, Res.apart, Low.els] <;> omega) ?_; intro w9 hI9 hs9)
    refine bodyPost_ret (v := .agg (r.map bv).toArray) ?_ rfl ⟨by rw [HR.out], (hI9.at_ 2 rfl).1⟩
    exact results_cell_row rfl _ _ w.heap.size 58 (r.map bv).toArray (0, 0) _ rfl (hI9.at_ 0 rfl) Tryd.underlying58 rfl (by rw [List.size_toArray, H32r.out]; kernel_rfl)
end Go.Proofs.YtieobkgdkiahbaaDoor
set_option linter.unusedSimpArgs false
set_option linter.unusedVariables false
set_option maxRecDepth 100000
namespace Go.Adm
open Go Go.RowKit
theorem path_short {s : ByteArray} (h : pathB s = true) : s.size ≤ 200 := by
  unfold pathB at h
  simp only [Bool.and_eq_true, Bool.not_eq_true', decide_eq_false_iff_not] at h
  omega
theorem word_short (s : ByteArray) (n : Nat) (h : s.size ≤ n) (hn : 1 ≤ n) : (wordS (bs s)).length ≤ 3 * n := by
  rw [wordS_len]
  have h1 := encW_len (bs s)
  have h2 : (bs s).length = s.size := Array.length_toList
  omega
theorem ent_line {x : E} (h : E32 x) (hp : pathB x.p = true) : lineE (entLn fileT x) = 0 ∧ (lineS (entLn fileT x)).length ≤ 1000 := by
  have h1 := path_short hp
  have h2 := fmt_size h.1
  have h3 : fileT.size = 4 := rfl
  constructor
  · unfold lineE
    rw [if_neg (by simp [entLn]), if_neg (by simp [entLn])]
    have : (entLn fileT x).any (fun w => decide (32768 < w.size)) = false := by
      rw [List.any_eq_false]
      intro w hw
      simp only [entLn, List.mem_cons, List.mem_nil_iff, or_false] at hw
      rcases hw with rfl | rfl | rfl <;> simp <;> omega
    rw [this]
    rfl
  · rw [lineS_len _ (by simp [entLn])]
    have a1 := word_short fileT 4 (by omega) (by omega)
    have a2 := word_short x.p 200 h1 (by omega)
    have a3 := word_short _ 71 (Nat.le_of_eq h2) (by omega)
    simp only [lenW, entLn, List.map_cons, List.map_nil, List.sum_cons, List.sum_nil]
    omega
theorem file_docE {l : List E} (hg : GoodL l) (hl : l.length ≤ 8) : docE (entLs fileT l) = 0 := by
  have key : ∀ l : List E, (∀ x ∈ l, E32 x ∧ pathB x.p = true) → linesE (entLs fileT l) = 0 ∧ (encD (entLs fileT l)).length ≤ 1000 * l.length := by
    intro l
    induction l with
    | nil => intro _; exact ⟨rfl, by simp [entLs, encD]⟩
    | cons x r ih =>
      intro h
      obtain ⟨h1, h2⟩ := ent_line (h x (by simp)).1 (h x (by simp)).2
      obtain ⟨h3, h4⟩ := ih (fun y hy => h y (by simp [hy]))
      constructor
      · show (if lineE (entLn fileT x) ≠ 0 then lineE (entLn fileT x) else linesE (entLs fileT r)) = 0
        rw [h1, if_neg (by simp)]
        exact h3
      · show (List.flatMap lineS (entLn fileT x :: entLs fileT r)).length ≤ _
        rw [List.flatMap_cons, List.length_append, List.length_cons]
        have : (List.flatMap lineS (entLs fileT r)).length ≤ 1000 * r.length := h4
        omega
  obtain ⟨h1, h2⟩ := key l (fun x hx => ⟨hg.each x hx, hg.path x hx⟩)
  unfold docE
  rw [if_neg (by rw [entLs, List.length_map]; omega), h1, if_neg (by simp), if_neg (by omega)]
theorem file_pos (l : List E) : (0 < (encD (entLs fileT l)).length) = (0 < l.length) := by
  cases l with
  | nil => rfl
  | cons x r =>
    have h : 0 < (encD (entLs fileT (x :: r))).length := by
      show 0 < (List.flatMap lineS (entLn fileT x :: entLs fileT r)).length
      rw [List.flatMap_cons, List.length_append, lineS_len _ (by simp [entLn])]
      simp only [lenW, entLn, List.map_cons, List.map_nil, List.sum_cons, List.sum_nil]
      omega
    simp only [List.length_cons, eq_iff_iff]
    exact ⟨fun _ => by omega, fun _ => h⟩
theorem revS_len (l : List E) : (revS l).length = 32 := by
  unfold revS
  split
  · exact shaS_len _
  · rfl
end Go.Adm
namespace Go.Proofs.YtieobkgdkiahbaaDoor
open Go Go.RowKit Go.Adm

set_option maxHeartbeats 3200000 in
theorem walkRevisions (w : World) (m : Int) (hm : w.cell? ⟨0, 0, none⟩ = some (.int .i64 m)) (B : Nat) (A1 : Option Addr) (n1 c1 : Nat) (a : List E) (h1 : Els w B 33 A1 n1 (a.map entC)) (ha : ∀ e ∈ a, E32 e) (e1 : a.length = n1) (A : Option Addr) (nl cl : Nat) (L : List Int) (hL : Rd w B 1 A nl (L.map iv)) (hB : B ≤ w.heap.size) :
    Calls Tryd.prog 8 #[.slice A1 n1 c1, .slice A nl cl] w fun e w' => e = .returned (.bool true) ∧ Below w.heap.size w w' := by
  have hR : All w [.low (.els B 33 A1 n1 (a.map entC)), .kept w w.heap.size] := ⟨⟨h1, hB⟩, ⟨Below.refl _ _, Nat.le_refl _⟩, trivial⟩
  by_cases q1 : 200 < n1
  · have d1 : decide ((n1 : Int) ≤ 200) = false := by simp; omega
    have hc1 := light_any w A1 n1 c1
    rw [d1] at hc1
    go_enter Tryd.func8, Tryd.ntmps8
    go_wp2_with fail
    refine hc1.mono ?_
    rintro e w1 ⟨rfl, rfl⟩
    go_wp2_with fail
    go_ret
    exact ⟨rfl, Below.refl _ _⟩
  have d1 : decide ((n1 : Int) ≤ 200) = true := by simp; omega
  have hc1 := light_any w A1 n1 c1
  rw [d1] at hc1
  clear d1
  have HA := Lib.hid ha
  have HN := Lib.hid e1
  have hn1 : n1 ≤ 200 := by omega
  have hc0 : Cells (w.alloc (.cells #[.slice A nl cl, .int .i64 ((0 : Nat) : Int)] 35)) w.heap.size 35 [.slice A nl cl, .int .i64 ((0 : Nat) : Int)] := Cells.new' w _ _ rfl rfl
  have hL1 := hL.alloc hB (.cells #[.slice A nl cl, .int .i64 ((0 : Nat) : Int)] 35)
  have hRn := hR.alloc (.cells #[.slice A nl cl, .int .i64 ((0 : Nat) : Int)] 35)
  have hs0 : (w.alloc (.cells #[.slice A nl cl, .int .i64 ((0 : Nat) : Int)] 35)).heap.size = w.heap.size + 1 := by simp
  have htn := TSnap_any _ w.heap.size B A nl cl 0 L hc0 hL1 hB (by omega) 8 (by omega)
  have HS0 := Lib.hid hs0
  have hRn' : All (w.alloc (.cells #[.slice A nl cl, .int .i64 ((0 : Nat) : Int)] 35)) [.low (.els B 33 A1 n1 (a.map entC)), .kept w w.heap.size] ∧ True := ⟨hRn, trivial⟩
  clear h1 ha e1 hL hR hc0 hL1 hs0 hRn q1
  go_enter Tryd.func8, Tryd.ntmps8
  go_wp2_with fail
  refine hc1.mono ?_
  rintro e w1 ⟨rfl, hw1⟩
  rw [hw1]
  clear hw1 hc1
  go_wp2_with fail
  refine htn.mono ?_
  clear htn
  rintro e v1 ⟨l1, p1, k1, m1, hl1, hm1, rfl, hg1, ho1, hc1, hgr1⟩
  rw [HS0.out] at ho1
  have hs1 := hgr1.size
  rw [HS0.out] at hs1
  have hJ1 : All v1 [.own (w.heap.size + 1) 72 33 p1 l1.length k1 (l1.map entC).flatten, .low (.els B 33 A1 n1 (a.map entC)), .kept w w.heap.size] := ⟨ho1, All.step hgr1 hRn'.1 ⟨fun g' e => by injection e with e; simp only [Low.els]; omega, fun g' e => by injection e with e; omega, trivial⟩⟩
  clear hRn' hgr1 hc1 ho1 HS0 hs1
  have HG := Lib.hid hg1
  have hE := Lib.hid (file_docE hg1 hl1)
  have hP := Lib.hid (file_pos l1)
  have hli := Lines_any fileT (by decide) v1 v1.heap.size p1 l1.length k1 l1 (els_ofE (hJ1.at_ 0 rfl) hg1.each) hg1.each rfl (by omega) (Nat.le_refl _)
  go_wp2_with fail
  refine hli.mono ?_
  clear hli
  rintro e u2 ⟨A2, c2, rfl, hc2, hb2, hl2⟩
  have hJ2 := hJ1.call hb2
  clear hJ1 hb2
  have HL2 := Lib.hid hl2
  clear hl2
  go_wp2_with fail
  refine (Encode_any _ _ A2 l1.length c2 _ HL2.out (Nat.le_refl _)).mono fun e u3 he => ?_
  obtain ⟨A3, n3, c3, rfl, hb3, hr3, hc3, hc4, hn3⟩ := he.full
  clear he HL2
  rw [hE.out]
  have hpp : (0 < n3) = (0 < l1.length) := by
    rw [hn3, encL, if_pos hE.out]
    exact hP.out
  have HPP := Lib.hid hpp
  have hJ3 := hJ2.call hb3
  clear hJ2 hb3 hpp hr3 hc3 hc4 hn3 hE hP hc2
  go_wp2_with fail
  refine (awake_any _).mono ?_
  rintro e u4 ⟨rfl, hb4⟩
  have hJ4 := hJ3.call hb4
  clear hJ3 hb4
  go_wp2_with fail
  refine (Revision_any _ B A1 n1 c1 a (hJ4.at_ 1 rfl : _ ∧ _).1 HA.out HN.out (by omega) (hJ4.at_ 1 rfl : _ ∧ _).2).mono ?_
  rintro e u5 ⟨rfl, hb5⟩
  have hJ5 := hJ4.call hb5
  clear hJ4 hb5
  go_wp2_with fail
  refine (refRevision_any _ m (glob_keep hm (hJ5.at_ 2 rfl).1) B A1 n1 c1 a (hJ5.at_ 1 rfl : _ ∧ _).1 HA.out HN.out (by omega) (hJ5.at_ 1 rfl : _ ∧ _).2).mono ?_
  rintro e u6 ⟨rfl, hb6⟩
  have hJ6 := hJ5.call hb6
  clear hJ5 hb6
  have hqa : ∀ W : World, (binOp .eql 58 (.agg ((revS a).map bv).toArray) (.agg ((revS a).map bv).toArray)).run Tryd.prog W = .ok (.bool true) W := fun W => by
    have := eq_dg W (revS a) (revS a) (revS_len a) (revS_len a)
    simpa using this
  go_wp2_with fail
  refine (Revision_any _ _ p1 l1.length k1 l1 (els_ofE (hJ6.at_ 0 rfl) HG.out.each) HG.out.each rfl (by omega) (Nat.le_refl _)).mono ?_
  rintro e u7 ⟨rfl, hb7⟩
  have hJ7 := hJ6.call hb7
  clear hJ6 hb7 hqa
  go_wp2_with fail
  refine (refRevision_any _ m (glob_keep hm (hJ7.at_ 2 rfl).1) _ p1 l1.length k1 l1 (els_ofE (hJ7.at_ 0 rfl) HG.out.each) HG.out.each rfl (by omega) (Nat.le_refl _)).mono ?_
  rintro e u8 ⟨rfl, hb8⟩
  have hJ8 := hJ7.call hb8
  clear hJ7 hb8
  have hqb : ∀ W : World, (binOp .eql 58 (.agg ((revS l1).map bv).toArray) (.agg ((revS l1).map bv).toArray)).run Tryd.prog W = .ok (.bool true) W := fun W => by
    have := eq_dg W (revS l1) (revS l1) (revS_len l1) (revS_len l1)
    simpa using this
  have hkp := (hJ8.at_ 2 rfl).1
  clear hJ8 HG hg1
  generalize l1.length = ln at *
  by_cases hz : 0 < ln
  · have x1 : decide (0 < (ln : Int)) = true := by simp; omega
    have x2 : decide (0 < ln) = true := by simp; omega
    have hz3 : 0 < n3 := by rw [HPP.out]; exact hz
    have y1 : decide (0 < (n3 : Int)) = true := by simp; omega
    have y2 : decide (0 < n3) = true := by simp; omega
    clear hz hz3
    go_wp2_with fail
    go_ret
    exact ⟨rfl, hkp⟩
  · have x1 : decide (0 < (ln : Int)) = false := by simp; omega
    have x2 : decide (0 < ln) = false := by simp; omega
    have hz3 : ¬ 0 < n3 := by rw [HPP.out]; exact hz
    have y1 : decide (0 < (n3 : Int)) = false := by simp; omega
    have y2 : decide (0 < n3) = false := by simp; omega
    clear hz hz3
    go_wp2_with fail
    go_ret
    exact ⟨rfl, hkp⟩
end Go.Proofs.YtieobkgdkiahbaaDoor

/- The law StoreLinks. -/
import Derived.Test.YtkcmaembpfakdaaDoorLkR
import Derived.Test.YtkcmaembpfakdaaDoorSameD
import Derived.Test.YtkcmaembpfakdaaDoorSto14
import Derived.Test.YtkcmaembpfakdaaDoorDoc5
set_option linter.unusedSimpArgs false
set_option linter.unusedVariables false
set_option maxRecDepth 100000
namespace Go.Adm
open Go Go.RowKit
theorem linksB_32 (b : List UInt8) : ∀ x ∈ linksB b, x.length = 32 := fun x hx => (linksW_each _ x hx).1
end Go.Adm
namespace Go.Proofs.YtkcmaembpfakdaaDoor
open Go Go.RowKit Go.Adm
set_option maxHeartbeats 12800000 in
theorem walkLinks (w : World) (m : Int) (hm : w.cell? ⟨0, 0, none⟩ = some (.int .i64 m)) (B : Nat) (A : Option Addr) (n c : Nat) (b : List UInt8) (hb : Rd w B 1 A n (b.map bv)) (hnc : n ≤ c) (hcm : c ≤ maxLen) (A2 : Option Addr) (n2 c2 : Nat) (ls : List (List ByteArray)) (hl : Lines w B A2 n2 ls) (hB : B ≤ w.heap.size) :
    Calls Tryd.prog 3 #[.slice A n c, .slice A2 n2 c2] w fun e w' => e = .returned (.bool true) ∧ Below w.heap.size w w' := by
  have hgm : 0 < w.heap.size := World.block_lt_of_cell? w _ hm
  have hR : All w [.low (.rd B 1 A n (b.map bv)), .kept w w.heap.size] := ⟨⟨hb, hB⟩, ⟨Below.refl _ _, Nat.le_refl _⟩, trivial⟩
  have hen := refEncode_any w B A2 n2 c2 ls hl hB
  have HM : Hid (∀ W, Below w.heap.size w W → W.cell? ⟨0, 0, none⟩ = some (.int .i64 m)) := Lib.hid (fun W hb => (hb.cell hgm).trans hm)
  have HP : Hid (∀ (A : Option Addr) n c (b : List UInt8) B W, n ≤ c → c ≤ maxLen → Rd W B 1 A n (b.map bv) → B ≤ W.heap.size → Calls Tryd.prog 7 #[.slice A n c] W (OwnD 36 (linksB b) W)) := Lib.hid (fun A n c b B W h1 h2 h3 h4 => Links_any W B A n c b h3 h1 h2 h4)
  have HQ : Hid (∀ (A : Option Addr) n c (b : List UInt8) B W, Below w.heap.size w W → n ≤ c → c ≤ maxLen → Rd W B 1 A n (b.map bv) → B ≤ W.heap.size → Calls Tryd.prog 8 #[.slice A n c] W (OwnD 36 (linksB b) W)) := Lib.hid (fun A n c b B W h0 h1 h2 h3 h4 => refLinks_any W m (HM.out W h0) B A n c b h3 h1 h2 h4)
  have HS : Hid (∀ (b : List UInt8) (A1 A2 : Option Addr) c1 c2 W, Digs W W.heap.size A1 (linksB b).length (linksB b) → Digs W W.heap.size A2 (linksB b).length (linksB b) → Calls Tryd.prog 6 #[.slice A1 (linksB b).length c1, .slice A2 (linksB b).length c2] W fun e w' => e = .returned (.bool true) ∧ Below W.heap.size W w') := Lib.hid (fun b A1 A2 c1 c2 W h1 h2 => SameDigs_true W W.heap.size A1 A2 _ c1 c2 (linksB b) h1 h2 (by have := linksB_len b; omega) (Nat.le_refl _))
  have HNC := Lib.hid hnc
  have HCM := Lib.hid hcm
  clear hb hl hm hgm HM hnc hcm
  by_cases q1 : 100000 < n
  · have d1 : decide ((100000 : Int) < (n : Int)) = true := by simp; omega
    go_enter Tryd.func3, Tryd.ntmps3
    go_wp2_with fail
    go_ret
    exact ⟨rfl, Below.refl _ _⟩
  have d1 : decide ((100000 : Int) < (n : Int)) = false := by simp; omega
  by_cases q2 : 100 < n2
  · have d2 : decide ((100 : Int) < (n2 : Int)) = true := by simp; omega
    go_enter Tryd.func3, Tryd.ntmps3
    go_wp2_with fail
    go_ret
    exact ⟨rfl, Below.refl _ _⟩
  have d2 : decide ((100 : Int) < (n2 : Int)) = false := by simp; omega
  unfold EncPost at hen
  have HE32 := Lib.hid (fun b => linksB_32 b)
  generalize docE ls = er at *
  generalize encD ls = x at *
  by_cases he : er = 0
  · have de : (er != 0) = false := by simp [he]
    go_enter Tryd.func3, Tryd.ntmps3
    go_upto_region 6 with (go_at_call 4; refine hen.mono ?_; clear hen; rintro e w3 ⟨Ax, nx, cx, rfl, hb3, hyes, hno⟩)
    have hox := hyes he
    have HXN := Lib.hid hox.cap.1
    have HXC := Lib.hid hox.cap.2
    have h3 : All w3 [.low (.rd B 1 A n (b.map bv)), .low (.rd w3.heap.size 1 Ax nx (x.map bv)), .kept w w.heap.size] := ⟨(hR.call hb3).1, ⟨hox.rd, Nat.le_refl _⟩, (hR.call hb3).2⟩
    obtain ⟨BX, hBX⟩ : ∃ s, s = w3.heap.size := ⟨_, rfl⟩
    rw [← hBX] at h3
    clear hR hb3 hyes hno hox hBX he
    go_wp2_with (first
      | (go_at_call 5; refine (awake_any w3).mono ?_; rintro e w4 ⟨rfl, hb4⟩; have h4 := h3.call hb4; have hp1 := HP.out A n c b B w4 HNC.out HCM.out (h4.at_ 0 rfl : Rd w4 B 1 A n _ ∧ _).1 (h4.at_ 0 rfl : _ ∧ B ≤ w4.heap.size).2; clear hb4)
      | (go_at_call 7; refine hp1.mono ?_; clear hp1; rintro e w5 ⟨A5, c5, rfl, hO5, hb5⟩; have h5 := (h4.call hb5).cons (r := .low (Low.digs w5.heap.size A5 (linksB b).length (linksB b))) ⟨digs_own hO5 (HE32.out b), Nat.le_refl _⟩; have hp2 := HQ.out A n c b B w5 (h5.at_ 3 rfl : _ ∧ _).1 HNC.out HCM.out (h5.at_ 1 rfl : Rd w5 B 1 A n _ ∧ _).1 (h5.at_ 1 rfl : _ ∧ B ≤ w5.heap.size).2; clear hO5 hb5)
      | (go_at_call 8; refine hp2.mono ?_; clear hp2; rintro e w6 ⟨A6, c6, rfl, hO6, hb6⟩; have h6 := h5.call hb6; have hp3 := HS.out b A5 A6 c5 c6 w6 ((h6.at_ 0 rfl : Digs w6 w5.heap.size A5 _ _ ∧ _).1.mono (h6.at_ 0 rfl : _ ∧ w5.heap.size ≤ w6.heap.size).2) (digs_own hO6 (HE32.out b)); clear hO6 hb6)
      | (go_at_call 6; refine hp3.mono ?_; clear hp3; rintro e w7 ⟨rfl, hb7⟩; have h7 := (h6.call hb7).2; have hp4 := HP.out Ax nx cx x BX w7 HXN.out HXC.out (h7.at_ 1 rfl : Rd w7 BX 1 _ _ _ ∧ _).1 (h7.at_ 1 rfl : _ ∧ BX ≤ w7.heap.size).2; clear hb7)
      | (go_at_call 7; refine hp4.mono ?_; clear hp4; rintro e w8 ⟨A8, c8, rfl, hO8, hb8⟩; have h8 := (h7.call hb8).cons (r := .low (Low.digs w8.heap.size A8 (linksB x).length (linksB x))) ⟨digs_own hO8 (HE32.out x), Nat.le_refl _⟩; have hp5 := HQ.out Ax nx cx x BX w8 (h8.at_ 3 rfl : _ ∧ _).1 HXN.out HXC.out (h8.at_ 2 rfl : Rd w8 BX 1 _ _ _ ∧ _).1 (h8.at_ 2 rfl : _ ∧ BX ≤ w8.heap.size).2; clear hO8 hb8)
      | (go_at_call 8; refine hp5.mono ?_; clear hp5; rintro e w9 ⟨A9, c9, rfl, hO9, hb9⟩; have h9 := h8.call hb9; have hp6 := HS.out x A8 A9 c8 c9 w9 ((h9.at_ 0 rfl : Digs w9 w8.heap.size A8 _ _ ∧ _).1.mono (h9.at_ 0 rfl : _ ∧ w8.heap.size ≤ w9.heap.size).2) (digs_own hO9 (HE32.out x)); clear hO9 hb9)
      | (go_at_call 6; refine hp6.mono ?_; clear hp6; rintro e wa ⟨rfl, hba⟩; have ha := (h9.call hba).2))
    go_ret
    exact ⟨rfl, (ha.at_ 2 rfl : _ ∧ _).1⟩
  · have de : (er != 0) = true := by simpa using he
    go_enter Tryd.func3, Tryd.ntmps3
    go_upto_region 6 with (go_at_call 4; refine hen.mono ?_; clear hen; rintro e w3 ⟨Ax, nx, cx, rfl, hb3, hyes, hno⟩)
    have HXN : Hid (0 ≤ 0) := Lib.hid (Nat.le_refl _)
    have HXC : Hid (0 ≤ maxLen) := Lib.hid (Nat.zero_le _)
    have h3 : All w3 [.low (.rd B 1 A n (b.map bv)), .low (.rd w3.heap.size 1 none 0 (([] : List UInt8).map bv)), .kept w w.heap.size] := ⟨(hR.call hb3).1, ⟨Rd.nil, Nat.le_refl _⟩, (hR.call hb3).2⟩
    obtain ⟨BX, hBX⟩ : ∃ s, s = w3.heap.size := ⟨_, rfl⟩
    rw [← hBX] at h3
    clear hR hb3 hyes hno hBX he
    go_wp2_with (first
      | (go_at_call 5; refine (awake_any w3).mono ?_; rintro e w4 ⟨rfl, hb4⟩; have h4 := h3.call hb4; have hp1 := HP.out A n c b B w4 HNC.out HCM.out (h4.at_ 0 rfl : Rd w4 B 1 A n _ ∧ _).1 (h4.at_ 0 rfl : _ ∧ B ≤ w4.heap.size).2; clear hb4)
      | (go_at_call 7; refine hp1.mono ?_; clear hp1; rintro e w5 ⟨A5, c5, rfl, hO5, hb5⟩; have h5 := (h4.call hb5).cons (r := .low (Low.digs w5.heap.size A5 (linksB b).length (linksB b))) ⟨digs_own hO5 (HE32.out b), Nat.le_refl _⟩; have hp2 := HQ.out A n c b B w5 (h5.at_ 3 rfl : _ ∧ _).1 HNC.out HCM.out (h5.at_ 1 rfl : Rd w5 B 1 A n _ ∧ _).1 (h5.at_ 1 rfl : _ ∧ B ≤ w5.heap.size).2; clear hO5 hb5)
      | (go_at_call 8; refine hp2.mono ?_; clear hp2; rintro e w6 ⟨A6, c6, rfl, hO6, hb6⟩; have h6 := h5.call hb6; have hp3 := HS.out b A5 A6 c5 c6 w6 ((h6.at_ 0 rfl : Digs w6 w5.heap.size A5 _ _ ∧ _).1.mono (h6.at_ 0 rfl : _ ∧ w5.heap.size ≤ w6.heap.size).2) (digs_own hO6 (HE32.out b)); clear hO6 hb6)
      | (go_at_call 6; refine hp3.mono ?_; clear hp3; rintro e w7 ⟨rfl, hb7⟩; have h7 := (h6.call hb7).2; have hp4 := HP.out none 0 0 [] BX w7 HXN.out HXC.out (h7.at_ 1 rfl : Rd w7 BX 1 _ _ _ ∧ _).1 (h7.at_ 1 rfl : _ ∧ BX ≤ w7.heap.size).2; clear hb7)
      | (go_at_call 7; refine hp4.mono ?_; clear hp4; rintro e w8 ⟨A8, c8, rfl, hO8, hb8⟩; have h8 := (h7.call hb8).cons (r := .low (Low.digs w8.heap.size A8 (linksB []).length (linksB []))) ⟨digs_own hO8 (HE32.out []), Nat.le_refl _⟩; have hp5 := HQ.out none 0 0 [] BX w8 (h8.at_ 3 rfl : _ ∧ _).1 HXN.out HXC.out (h8.at_ 2 rfl : Rd w8 BX 1 _ _ _ ∧ _).1 (h8.at_ 2 rfl : _ ∧ BX ≤ w8.heap.size).2; clear hO8 hb8)
      | (go_at_call 8; refine hp5.mono ?_; clear hp5; rintro e w9 ⟨A9, c9, rfl, hO9, hb9⟩; have h9 := h8.call hb9; have hp6 := HS.out [] A8 A9 c8 c9 w9 ((h9.at_ 0 rfl : Digs w9 w8.heap.size A8 _ _ ∧ _).1.mono (h9.at_ 0 rfl : _ ∧ w8.heap.size ≤ w9.heap.size).2) (digs_own hO9 (HE32.out [])); clear hO9 hb9)
      | (go_at_call 6; refine hp6.mono ?_; clear hp6; rintro e wa ⟨rfl, hba⟩; have ha := (h9.call hba).2))
    go_ret
    exact ⟨rfl, (ha.at_ 2 rfl : _ ∧ _).1⟩
end Go.Proofs.YtkcmaembpfakdaaDoor

/- The law EnvelopeMessages. -/
import Derived.Test.YtfakjamocpamiaaEnvK
set_option linter.unusedSimpArgs false
set_option linter.unusedVariables false
set_option maxRecDepth 100000
namespace Go.Proofs.Ytfakjamocpamiaa
open Go Go.RowKit Go.Adm
set_option maxHeartbeats 3200000 in
theorem walkMessages (w : World) (B : Nat) (kind : ByteArray) (A : Option Addr) (n c : Nat) (p : List UInt8) (hp : Rd w B 1 A n (p.map bv)) (hk : kind.size ≤ 140737488355328) (hn : n ≤ 140737488355328) (hB : B ≤ w.heap.size) :
    Calls Try.prog 4 #[.string kind, .slice A n c] w fun e w' => e = .returned (.bool true) ∧ Below w.heap.size w w' := by
  have hR : All w [.low (.rd B 1 A n (p.map bv)), .kept w w.heap.size] := ⟨⟨hp, hB⟩, ⟨Below.refl _ _, Nat.le_refl _⟩, trivial⟩
  clear hp
  go_enter Try.func4, Try.ntmps4
  by_cases h1 : 40000 < kind.size
  · have d1 : decide ((40000 : Int) < (kind.size : Int)) = true := by simp; omega
    have d1' : decide (40000 < kind.size) = true := by simp; omega
    clear h1
    go_wp2_with fail
    go_ret
    exact ⟨rfl, (hR.at_ 1 rfl : _ ∧ _).1⟩
  · have d1 : decide ((40000 : Int) < (kind.size : Int)) = false := by simp; omega
    have d1' : decide (40000 < kind.size) = false := by simp; omega
    clear h1
    by_cases h2 : 100000 < n
    · have d2 : decide ((100000 : Int) < (n : Int)) = true := by simp; omega
      have d2' : decide (100000 < n) = true := by simp; omega
      clear h2
      go_wp2_with fail
      go_ret
      exact ⟨rfl, (hR.at_ 1 rfl : _ ∧ _).1⟩
    · have d2 : decide ((100000 : Int) < (n : Int)) = false := by simp; omega
      have d2' : decide (100000 < n) = false := by simp; omega
      clear h2
      have haw := awakeE_any w
      obtain ⟨m, hm⟩ : ∃ m, msgS kind p = m := ⟨_, rfl⟩
      have HML : Hid (m.length = 32) := Lib.hid (by rw [← hm]; exact msgS_len _ _)
      have HM1 : Hid (∀ W, All W [.low (.rd B 1 A n (p.map bv)), .kept w w.heap.size] → Calls Try.prog 17 #[.string kind, .slice A n c] W fun e w' => e = .returned (.agg (m.map bv).toArray) ∧ Below W.heap.size W w') := Lib.hid (fun W hW => by rw [← hm]; exact Message_any W B kind A n c p (hW.at_ 0 rfl : Rd W B 1 A n _ ∧ _).1 hk hn (hW.at_ 0 rfl : _ ∧ B ≤ W.heap.size).2)
      have HM2 : Hid (∀ W, All W [.low (.rd B 1 A n (p.map bv)), .kept w w.heap.size] → Calls Try.prog 18 #[.string kind, .slice A n c] W fun e w' => e = .returned (.agg (m.map bv).toArray) ∧ Below W.heap.size W w') := Lib.hid (fun W hW => by rw [← hm]; exact refMessage_any W B kind A n c p (hW.at_ 0 rfl : Rd W B 1 A n _ ∧ _).1 hk hn (hW.at_ 0 rfl : _ ∧ B ≤ W.heap.size).2)
      clear hm
      have heq : ∀ W, (binOp .eql 37 (.agg (m.map bv).toArray) (.agg (m.map bv).toArray)).run Try.prog W = .ok (.bool true) W := fun W => by rw [eq_dg W m m HML.out HML.out]; simp
      go_wp2_with (first
        | (go_at_call 16; refine haw.mono ?_; clear haw; rintro e w2 ⟨rfl, hb2⟩; have hI2 := hR.call hb2; have hm1 := HM1.out w2 hI2)
        | (go_at_call 17; refine hm1.mono ?_; clear hm1; rintro e w3 ⟨rfl, hb3⟩; have hI3 := hI2.call hb3; have hm2 := HM2.out w3 hI3)
        | (go_at_call 18; refine hm2.mono ?_; clear hm2; rintro e w4 ⟨rfl, hb4⟩; have hI4 := hI3.call hb4))
      go_ret
      exact ⟨rfl, (hI4.at_ 1 rfl : _ ∧ _).1⟩
end Go.Proofs.Ytfakjamocpamiaa

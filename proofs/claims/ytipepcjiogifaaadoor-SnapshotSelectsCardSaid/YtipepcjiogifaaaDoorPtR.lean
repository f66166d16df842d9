/- Relocation: plain Lean; pattern.Relocate. -/
import Derived.Test.YtipepcjiogifaaaDoorSnap3
import Derived.Test.YtipepcjiogifaaaDoorLayC
set_option linter.unusedSimpArgs false
set_option linter.unusedVariables false
set_option maxRecDepth 100000
namespace Go.Adm
open Go Go.RowKit
def dirB (s : ByteArray) : Bool := (s.toList == []) || pathB s
def restO (d p : ByteArray) : Option ByteArray := if (d.toList == []) = true then some p else if Lib.hasPrefix p.data.toList (d ++ ⟨#[47]⟩).data.toList = true then some ⟨(Lib.trimPrefix p.data.toList (d ++ ⟨#[47]⟩).data.toList).toArray⟩ else none
def underB (d r : ByteArray) : ByteArray := if (d.toList == []) = true then r else d ++ ⟨#[47]⟩ ++ r
def finO (u : ByteArray) : Option ByteArray := if pathB u = true then some u else none
/-- the path moved from one directory to another one -/
def relO (f t p : ByteArray) : Option ByteArray := if dirB f = true then if dirB t = true then if pathB p = true then (restO f p).bind (fun r => finO (underB t r)) else none else none else none
def relS (o : Option ByteArray) : ByteArray := o.getD ⟨#[]⟩
theorem path_le {s : ByteArray} (h : pathB s = true) : s.size ≤ 200 := by
  unfold pathB at h
  simp only [Bool.and_eq_true, Bool.not_eq_true', decide_eq_false_iff_not] at h
  omega
theorem dir_le {s : ByteArray} (h : dirB s = true) : s.size ≤ 200 := by
  unfold dirB at h
  rcases Bool.or_eq_true_iff.1 h with h | h
  · have := beq_iff_eq.1 h
    rw [ByteArray.toList_eq] at this
    have h2 := Lib.size_eq s
    rw [this] at h2
    simp only [List.length_nil] at h2
    omega
  · exact path_le h
theorem rest_le {d p r : ByteArray} (h : restO d p = some r) : r.size ≤ p.size := by
  unfold restO at h
  split at h
  · rw [← Option.some.inj h]; exact Nat.le_refl _
  · split at h
    · rw [← Option.some.inj h]
      rw [Lib.size_eq, Lib.size_eq]
      simp only [Lib.trimPrefix]
      split <;> simp
    · cases h
theorem app_size (a b : ByteArray) : (a ++ b).size = a.size + b.size := ByteArray.size_append
theorem under_le (d r : ByteArray) : (underB d r).size ≤ d.size + 1 + r.size := by
  unfold underB
  split
  · omega
  · rw [app_size, app_size]
    exact Nat.le_refl _
end Go.Adm
namespace Go.Proofs.YtipepcjiogifaaaDoor
open Go Go.RowKit Go.Adm
theorem directory_any (s : ByteArray) (w : World) (hs : s.size ≤ 140737488355328) : Calls Tryd.prog 41 #[.string s] w fun e w' => e = .returned (.bool (dirB s)) ∧ Below w.heap.size w w' := by
  cases q1 : (s.toList == []) with
  | true =>
    have hv : Hid (dirB s = true) := Lib.hid (by unfold dirB; rw [q1]; rfl)
    go_enter Tryd.func41, Tryd.ntmps41
    go_wp2_with fail
    go_ret
    rw [hv.out]
    exact ⟨rfl, Below.refl _ _⟩
  | false =>
    have hv : Hid (dirB s = pathB s) := Lib.hid (by unfold dirB; rw [q1]; rfl)
    have hp := Path_any s w hs
    go_enter Tryd.func41, Tryd.ntmps41
    go_wp2_with (go_at_call 26; refine hp.mono ?_; clear hp; rintro e w1 ⟨rfl, hb1⟩)
    go_ret
    rw [hv.out]
    exact ⟨rfl, hb1⟩
theorem CutPrefix_any (s p : ByteArray) (w : World) : Calls Tryd.prog 42 #[.string s, .string p] w fun e w' => e = .returned (.tuple #[.string ⟨(Lib.trimPrefix s.data.toList p.data.toList).toArray⟩, .bool (Lib.hasPrefix s.data.toList p.data.toList)]) ∧ w = w' :=
  (Any.strings_CutPrefix Go.Proofs.Tryd.lays103 s p w).mono (fun _ _ h => ⟨h.1, h.2.symm⟩)
set_option maxHeartbeats 3200000 in
theorem Relocate_any (f t p : ByteArray) (w : World) (hf : f.size ≤ 140737488355328) (ht : t.size ≤ 140737488355328) (hp : p.size ≤ 140737488355328) :
    Calls Tryd.prog 27 #[.string f, .string t, .string p] w fun e w' => e = .returned (.tuple #[.string (relS (relO f t p)), .bool (relO f t p).isSome]) ∧ Below w.heap.size w w' := by
  have hdf := fun W => directory_any f W hf
  have hdt := fun W => directory_any t W ht
  have hpp := fun W => Path_any p W hp
  have hI : All w [.kept w w.heap.size] := ⟨⟨Below.refl _ _, Nat.le_refl _⟩, trivial⟩
  clear hf ht hp
  cases qf : dirB f with
  | false =>
    have HF : Hid (relO f t p = none) := Lib.hid (by unfold relO; rw [qf]; rfl)
    rw [qf] at hdf
    clear qf hdt hpp
    go_enter Tryd.func27, Tryd.ntmps27
    go_wp2_with (go_at_call 41; refine (hdf _).mono ?_; clear hdf; rintro e w1 ⟨rfl, hb1⟩; have hI1 := hI.call hb1)
    go_ret2
    rw [HF.out]
    exact ⟨rfl, (hI1.at_ 0 rfl : _ ∧ _).1⟩
  | true =>
    rw [qf] at hdf
    cases qt : dirB t with
    | false =>
      have HF : Hid (relO f t p = none) := Lib.hid (by unfold relO; rw [qf, qt]; rfl)
      rw [qt] at hdt
      clear qf qt hpp
      go_enter Tryd.func27, Tryd.ntmps27
      go_wp2_with (first
        | (go_at_call 41; refine (hdf _).mono ?_; clear hdf; rintro e w1 ⟨rfl, hb1⟩; have hI1 := hI.call hb1)
        | (go_at_call 41; refine (hdt _).mono ?_; clear hdt; rintro e w2 ⟨rfl, hb2⟩; have hI2 := hI1.call hb2))
      go_ret2
      rw [HF.out]
      exact ⟨rfl, (hI2.at_ 0 rfl : _ ∧ _).1⟩
    | true =>
      rw [qt] at hdt
      cases qp : pathB p with
      | false =>
        have HF : Hid (relO f t p = none) := Lib.hid (by unfold relO; rw [qf, qt, qp]; rfl)
        rw [qp] at hpp
        clear qf qt qp
        go_enter Tryd.func27, Tryd.ntmps27
        go_wp2_with (first
          | (go_at_call 41; refine (hdf _).mono ?_; clear hdf; rintro e w1 ⟨rfl, hb1⟩; have hI1 := hI.call hb1)
          | (go_at_call 41; refine (hdt _).mono ?_; clear hdt; rintro e w2 ⟨rfl, hb2⟩; have hI2 := hI1.call hb2)
          | (go_at_call 26; refine (hpp _).mono ?_; clear hpp; rintro e w3 ⟨rfl, hb3⟩; have hI3 := hI2.call hb3))
        go_ret2
        rw [HF.out]
        exact ⟨rfl, (hI3.at_ 0 rfl : _ ∧ _).1⟩
      | true =>
        rw [qp] at hpp
        have HREL : Hid (relO f t p = (restO f p).bind (fun r => finO (underB t r))) := Lib.hid (by unfold relO; rw [qf, qt, qp]; rfl)
        have HTL := Lib.hid (dir_le qt)
        have HFL := Lib.hid (dir_le qf)
        have HPL := Lib.hid (path_le qp)
        clear qf qt qp
        have hcp := fun W => CutPrefix_any p (f ++ ⟨#[47]⟩) W
        cases q1 : (f.toList == []) with
        | true =>
          have HR : Hid (restO f p = some p) := Lib.hid (by unfold restO; rw [q1]; rfl)
          have hu : ∀ W : World, Calls Tryd.prog 26 #[.string (underB t p)] W fun e w' => e = .returned (.bool (pathB (underB t p))) ∧ Below W.heap.size W w' := fun W => Path_any _ W (by have := under_le t p; have := HTL.out; have := HPL.out; omega)
          rw [HREL.out, HR.out]
          show Calls _ _ _ _ fun e w' => e = .returned (.tuple #[.string (relS (finO (underB t p))), .bool (finO (underB t p)).isSome]) ∧ Below w.heap.size w w'
          clear HR HREL hcp
          replace HTL : t.size ≤ 200 := HTL.out
          replace HPL : p.size ≤ 200 := HPL.out
          cases q2 : (t.toList == []) with
          | true =>
            have HV : underB t p = p := by unfold underB; rw [q2]; rfl
            rw [HV] at hu ⊢
            clear HV
            cases q3 : pathB p with
            | false =>
              have HF : Hid (finO p = none) := Lib.hid (by unfold finO; rw [q3]; rfl)
              rw [q3] at hu
              clear q3
              go_enter Tryd.func27, Tryd.ntmps27
              go_wp2_with (first
                | (go_at_call 41; refine (hdf _).mono ?_; clear hdf; rintro e w1 ⟨rfl, hb1⟩; have hI1 := hI.call hb1)
                | (go_at_call 41; refine (hdt _).mono ?_; clear hdt; rintro e w2 ⟨rfl, hb2⟩; have hI2 := hI1.call hb2)
                | (go_at_call 26; refine (hpp _).mono ?_; clear hpp; rintro e w3 ⟨rfl, hb3⟩; have hI3 := hI2.call hb3)
                | (go_at_call 26; refine (hu _).mono ?_; clear hu; rintro e w4 ⟨rfl, hb4⟩; have hI4 := hI3.call hb4))
              go_ret2
              rw [HF.out]
              exact ⟨rfl, (hI4.at_ 0 rfl : _ ∧ _).1⟩
            | true =>
              have HF : Hid (finO p = some p) := Lib.hid (by unfold finO; rw [q3]; rfl)
              rw [q3] at hu
              clear q3
              go_enter Tryd.func27, Tryd.ntmps27
              go_wp2_with (first
                | (go_at_call 41; refine (hdf _).mono ?_; clear hdf; rintro e w1 ⟨rfl, hb1⟩; have hI1 := hI.call hb1)
                | (go_at_call 41; refine (hdt _).mono ?_; clear hdt; rintro e w2 ⟨rfl, hb2⟩; have hI2 := hI1.call hb2)
                | (go_at_call 26; refine (hpp _).mono ?_; clear hpp; rintro e w3 ⟨rfl, hb3⟩; have hI3 := hI2.call hb3)
                | (go_at_call 26; refine (hu _).mono ?_; clear hu; rintro e w4 ⟨rfl, hb4⟩; have hI4 := hI3.call hb4))
              go_ret2
              rw [HF.out]
              exact ⟨rfl, (hI4.at_ 0 rfl : _ ∧ _).1⟩
          | false =>
            have HV : underB t p = (t ++ ⟨#[47]⟩ ++ p) := by unfold underB; rw [q2]; rfl
            rw [HV] at hu ⊢
            clear HV
            cases q3 : pathB (t ++ ⟨#[47]⟩ ++ p) with
            | false =>
              have HF : Hid (finO (t ++ ⟨#[47]⟩ ++ p) = none) := Lib.hid (by unfold finO; rw [q3]; rfl)
              rw [q3] at hu
              clear q3
              go_enter Tryd.func27, Tryd.ntmps27
              go_wp2_with (first
                | (go_at_call 41; refine (hdf _).mono ?_; clear hdf; rintro e w1 ⟨rfl, hb1⟩; have hI1 := hI.call hb1)
                | (go_at_call 41; refine (hdt _).mono ?_; clear hdt; rintro e w2 ⟨rfl, hb2⟩; have hI2 := hI1.call hb2)
                | (go_at_call 26; refine (hpp _).mono ?_; clear hpp; rintro e w3 ⟨rfl, hb3⟩; have hI3 := hI2.call hb3)
                | (go_at_call 26; refine (hu _).mono ?_; clear hu; rintro e w4 ⟨rfl, hb4⟩; have hI4 := hI3.call hb4))
              go_ret2
              rw [HF.out]
              exact ⟨rfl, (hI4.at_ 0 rfl : _ ∧ _).1⟩
            | true =>
              have HF : Hid (finO (t ++ ⟨#[47]⟩ ++ p) = some (t ++ ⟨#[47]⟩ ++ p)) := Lib.hid (by unfold finO; rw [q3]; rfl)
              rw [q3] at hu
              clear q3
              go_enter Tryd.func27, Tryd.ntmps27
              go_wp2_with (first
                | (go_at_call 41; refine (hdf _).mono ?_; clear hdf; rintro e w1 ⟨rfl, hb1⟩; have hI1 := hI.call hb1)
                | (go_at_call 41; refine (hdt _).mono ?_; clear hdt; rintro e w2 ⟨rfl, hb2⟩; have hI2 := hI1.call hb2)
                | (go_at_call 26; refine (hpp _).mono ?_; clear hpp; rintro e w3 ⟨rfl, hb3⟩; have hI3 := hI2.call hb3)
                | (go_at_call 26; refine (hu _).mono ?_; clear hu; rintro e w4 ⟨rfl, hb4⟩; have hI4 := hI3.call hb4))
              go_ret2
              rw [HF.out]
              exact ⟨rfl, (hI4.at_ 0 rfl : _ ∧ _).1⟩
        | false =>
          cases qh : Lib.hasPrefix p.data.toList (f ++ ⟨#[47]⟩).data.toList with
          | false =>
            have HF : Hid (relO f t p = none) := Lib.hid (by rw [HREL.out]; unfold restO; rw [q1, qh]; rfl)
            rw [qh] at hcp
            generalize (⟨(Lib.trimPrefix p.data.toList (f ++ ⟨#[47]⟩).data.toList).toArray⟩ : ByteArray) = rr at *
            clear qh HTL HPL HREL
            replace HFL : f.size ≤ 200 := HFL.out
            go_enter Tryd.func27, Tryd.ntmps27
            go_wp2_with (first
              | (go_at_call 41; refine (hdf _).mono ?_; clear hdf; rintro e w1 ⟨rfl, hb1⟩; have hI1 := hI.call hb1)
              | (go_at_call 41; refine (hdt _).mono ?_; clear hdt; rintro e w2 ⟨rfl, hb2⟩; have hI2 := hI1.call hb2)
              | (go_at_call 26; refine (hpp _).mono ?_; clear hpp; rintro e w3 ⟨rfl, hb3⟩; have hI3 := hI2.call hb3)
              | (go_at_call 42; refine (hcp _).mono ?_; clear hcp; rintro e w3b ⟨rfl, rfl⟩))
            go_ret2
            rw [HF.out]
            exact ⟨rfl, (hI3.at_ 0 rfl : _ ∧ _).1⟩
          | true =>
            have hr : restO f p = some ⟨(Lib.trimPrefix p.data.toList (f ++ ⟨#[47]⟩).data.toList).toArray⟩ := by unfold restO; rw [q1, qh]; rfl
            rw [qh] at hcp
            clear qh
            generalize (⟨(Lib.trimPrefix p.data.toList (f ++ ⟨#[47]⟩).data.toList).toArray⟩ : ByteArray) = rr at *
            have hrl := rest_le hr
            have HR := Lib.hid hr
            have hu : ∀ W : World, Calls Tryd.prog 26 #[.string (underB t rr)] W fun e w' => e = .returned (.bool (pathB (underB t rr))) ∧ Below W.heap.size W w' := fun W => Path_any _ W (by have := under_le t rr; have := HTL.out; have := HPL.out; omega)
            rw [HREL.out, HR.out]
            show Calls _ _ _ _ fun e w' => e = .returned (.tuple #[.string (relS (finO (underB t rr))), .bool (finO (underB t rr)).isSome]) ∧ Below w.heap.size w w'
            clear HR HREL hr
            replace HTL : t.size ≤ 200 := HTL.out
            replace HPL : p.size ≤ 200 := HPL.out
            have HRL : rr.size ≤ 200 := Nat.le_trans hrl HPL
            clear hrl
            replace HFL : f.size ≤ 200 := HFL.out
            cases q2 : (t.toList == []) with
            | true =>
              have HV : underB t rr = rr := by unfold underB; rw [q2]; rfl
              rw [HV] at hu ⊢
              clear HV
              cases q3 : pathB rr with
              | false =>
                have HF : Hid (finO rr = none) := Lib.hid (by unfold finO; rw [q3]; rfl)
                rw [q3] at hu
                clear q3
                go_enter Tryd.func27, Tryd.ntmps27
                go_wp2_with (first
                  | (go_at_call 41; refine (hdf _).mono ?_; clear hdf; rintro e w1 ⟨rfl, hb1⟩; have hI1 := hI.call hb1)
                  | (go_at_call 41; refine (hdt _).mono ?_; clear hdt; rintro e w2 ⟨rfl, hb2⟩; have hI2 := hI1.call hb2)
                  | (go_at_call 26; refine (hpp _).mono ?_; clear hpp; rintro e w3 ⟨rfl, hb3⟩; have hI3 := hI2.call hb3)
                  | (go_at_call 42; refine (hcp _).mono ?_; clear hcp; rintro e w3b ⟨rfl, rfl⟩)
                  | (go_at_call 26; refine (hu _).mono ?_; clear hu; rintro e w4 ⟨rfl, hb4⟩; have hI4 := hI3.call hb4))
                go_ret2
                rw [HF.out]
                exact ⟨rfl, (hI4.at_ 0 rfl : _ ∧ _).1⟩
              | true =>
                have HF : Hid (finO rr = some rr) := Lib.hid (by unfold finO; rw [q3]; rfl)
                rw [q3] at hu
                clear q3
                go_enter Tryd.func27, Tryd.ntmps27
                go_wp2_with (first
                  | (go_at_call 41; refine (hdf _).mono ?_; clear hdf; rintro e w1 ⟨rfl, hb1⟩; have hI1 := hI.call hb1)
                  | (go_at_call 41; refine (hdt _).mono ?_; clear hdt; rintro e w2 ⟨rfl, hb2⟩; have hI2 := hI1.call hb2)
                  | (go_at_call 26; refine (hpp _).mono ?_; clear hpp; rintro e w3 ⟨rfl, hb3⟩; have hI3 := hI2.call hb3)
                  | (go_at_call 42; refine (hcp _).mono ?_; clear hcp; rintro e w3b ⟨rfl, rfl⟩)
                  | (go_at_call 26; refine (hu _).mono ?_; clear hu; rintro e w4 ⟨rfl, hb4⟩; have hI4 := hI3.call hb4))
                go_ret2
                rw [HF.out]
                exact ⟨rfl, (hI4.at_ 0 rfl : _ ∧ _).1⟩
            | false =>
              have HV : underB t rr = (t ++ ⟨#[47]⟩ ++ rr) := by unfold underB; rw [q2]; rfl
              rw [HV] at hu ⊢
              clear HV
              cases q3 : pathB (t ++ ⟨#[47]⟩ ++ rr) with
              | false =>
                have HF : Hid (finO (t ++ ⟨#[47]⟩ ++ rr) = none) := Lib.hid (by unfold finO; rw [q3]; rfl)
                rw [q3] at hu
                clear q3
                go_enter Tryd.func27, Tryd.ntmps27
                go_wp2_with (first
                  | (go_at_call 41; refine (hdf _).mono ?_; clear hdf; rintro e w1 ⟨rfl, hb1⟩; have hI1 := hI.call hb1)
                  | (go_at_call 41; refine (hdt _).mono ?_; clear hdt; rintro e w2 ⟨rfl, hb2⟩; have hI2 := hI1.call hb2)
                  | (go_at_call 26; refine (hpp _).mono ?_; clear hpp; rintro e w3 ⟨rfl, hb3⟩; have hI3 := hI2.call hb3)
                  | (go_at_call 42; refine (hcp _).mono ?_; clear hcp; rintro e w3b ⟨rfl, rfl⟩)
                  | (go_at_call 26; refine (hu _).mono ?_; clear hu; rintro e w4 ⟨rfl, hb4⟩; have hI4 := hI3.call hb4))
                go_ret2
                rw [HF.out]
                exact ⟨rfl, (hI4.at_ 0 rfl : _ ∧ _).1⟩
              | true =>
                have HF : Hid (finO (t ++ ⟨#[47]⟩ ++ rr) = some (t ++ ⟨#[47]⟩ ++ rr)) := Lib.hid (by unfold finO; rw [q3]; rfl)
                rw [q3] at hu
                clear q3
                go_enter Tryd.func27, Tryd.ntmps27
                go_wp2_with (first
                  | (go_at_call 41; refine (hdf _).mono ?_; clear hdf; rintro e w1 ⟨rfl, hb1⟩; have hI1 := hI.call hb1)
                  | (go_at_call 41; refine (hdt _).mono ?_; clear hdt; rintro e w2 ⟨rfl, hb2⟩; have hI2 := hI1.call hb2)
                  | (go_at_call 26; refine (hpp _).mono ?_; clear hpp; rintro e w3 ⟨rfl, hb3⟩; have hI3 := hI2.call hb3)
                  | (go_at_call 42; refine (hcp _).mono ?_; clear hcp; rintro e w3b ⟨rfl, rfl⟩)
                  | (go_at_call 26; refine (hu _).mono ?_; clear hu; rintro e w4 ⟨rfl, hb4⟩; have hI4 := hI3.call hb4))
                go_ret2
                rw [HF.out]
                exact ⟨rfl, (hI4.at_ 0 rfl : _ ∧ _).1⟩
end Go.Proofs.YtipepcjiogifaaaDoor

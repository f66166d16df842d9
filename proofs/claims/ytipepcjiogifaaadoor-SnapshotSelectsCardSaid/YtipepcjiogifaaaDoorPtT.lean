/- The reference's Relocate. -/
import Derived.Test.YtipepcjiogifaaaDoorPtS
import Derived.Test.YtipepcjiogifaaaDoorRef1
set_option linter.unusedSimpArgs false
set_option linter.unusedVariables false
set_option maxRecDepth 100000
namespace Go.Proofs.YtipepcjiogifaaaDoor
open Go Go.RowKit Go.Adm
theorem Directory_any (s : ByteArray) (w : World) (m : Int) (hm : w.cell? ⟨0, 0, none⟩ = some (.int .i64 m)) : Calls Tryd.prog 28 #[.string s] w fun e w' => e = .returned (.bool (dirB s)) ∧ Below w.heap.size w w' := by
  cases q1 : (s.toList == []) with
  | true =>
    have hv : Hid (dirB s = true) := Lib.hid (by unfold dirB; rw [q1]; rfl)
    clear hm
    go_enter Tryd.func28, Tryd.ntmps28
    go_wp2_with fail
    go_ret
    rw [hv.out]
    exact ⟨rfl, Below.refl _ _⟩
  | false =>
    have hv : Hid (dirB s = pathB s) := Lib.hid (by unfold dirB; rw [q1]; rfl)
    have hp := refPath_any s w m hm
    clear hm
    go_enter Tryd.func28, Tryd.ntmps28
    go_wp2_with (go_at_call 43; refine hp.mono ?_; clear hp; rintro e w1 ⟨rfl, hb1⟩)
    go_ret
    rw [hv.out]
    exact ⟨rfl, hb1⟩
set_option maxHeartbeats 3200000 in
theorem refRelocate_any (f t p : ByteArray) (w : World) (m : Int) (hm : w.cell? ⟨0, 0, none⟩ = some (.int .i64 m)) :
    Calls Tryd.prog 29 #[.string f, .string t, .string p] w fun e w' => e = .returned (.tuple #[.string (relS (relO f t p)), .bool (relO f t p).isSome]) ∧ Below w.heap.size w w' := by
  have hgm : 0 < w.heap.size := World.block_lt_of_cell? w _ hm
  have hI : All w [.kept w w.heap.size] := ⟨⟨Below.refl _ _, Nat.le_refl _⟩, trivial⟩
  have HM : ∀ W, All W [.kept w w.heap.size] → W.cell? ⟨0, 0, none⟩ = some (.int .i64 m) := fun W hb => (((hb.at_ 0 rfl : _ ∧ _).1).cell hgm).trans hm
  have hdf := fun W (h : All W [.kept w w.heap.size]) => Directory_any f W m (HM W h)
  have hdt := fun W (h : All W [.kept w w.heap.size]) => Directory_any t W m (HM W h)
  have hpp := fun W (h : All W [.kept w w.heap.size]) => refPath_any p W m (HM W h)
  have HPU := Lib.hid (fun u W (h : All W [.kept w w.heap.size]) => refPath_any u W m (HM W h))
  clear hm hgm HM
  cases qf : dirB f with
  | false =>
    have HF : Hid (relO f t p = none) := Lib.hid (by unfold relO; rw [qf]; rfl)
    rw [qf] at hdf
    clear qf hdt hpp HPU
    go_enter Tryd.func29, Tryd.ntmps29
    go_wp2_with (go_at_call 28; refine (hdf _ hI).mono ?_; clear hdf; rintro e w1 ⟨rfl, hb1⟩; have hI1 := hI.call hb1)
    go_ret2
    rw [HF.out]
    exact ⟨rfl, (hI1.at_ 0 rfl : _ ∧ _).1⟩
  | true =>
    rw [qf] at hdf
    cases qt : dirB t with
    | false =>
      have HF : Hid (relO f t p = none) := Lib.hid (by unfold relO; rw [qf, qt]; rfl)
      rw [qt] at hdt
      clear qf qt hpp HPU
      go_enter Tryd.func29, Tryd.ntmps29
      go_wp2_with (first
        | (go_at_call 28; refine (hdf _ hI).mono ?_; clear hdf; rintro e w1 ⟨rfl, hb1⟩; have hI1 := hI.call hb1)
        | (go_at_call 28; refine (hdt _ hI1).mono ?_; clear hdt; rintro e w2 ⟨rfl, hb2⟩; have hI2 := hI1.call hb2))
      go_ret2
      rw [HF.out]
      exact ⟨rfl, (hI2.at_ 0 rfl : _ ∧ _).1⟩
    | true =>
      rw [qt] at hdt
      cases qp : pathB p with
      | false =>
        have HF : Hid (relO f t p = none) := Lib.hid (by unfold relO; rw [qf, qt, qp]; rfl)
        rw [qp] at hpp
        clear qf qt qp HPU
        go_enter Tryd.func29, Tryd.ntmps29
        go_wp2_with (first
          | (go_at_call 28; refine (hdf _ hI).mono ?_; clear hdf; rintro e w1 ⟨rfl, hb1⟩; have hI1 := hI.call hb1)
          | (go_at_call 28; refine (hdt _ hI1).mono ?_; clear hdt; rintro e w2 ⟨rfl, hb2⟩; have hI2 := hI1.call hb2)
          | (go_at_call 43; refine (hpp _ hI2).mono ?_; clear hpp; rintro e w3 ⟨rfl, hb3⟩; have hI3 := hI2.call hb3))
        go_ret2
        rw [HF.out]
        exact ⟨rfl, (hI3.at_ 0 rfl : _ ∧ _).1⟩
      | true =>
        rw [qp] at hpp
        have HREL : Hid (relO f t p = (restO f p).bind (fun r => finO (underB t r))) := Lib.hid (by unfold relO; rw [qf, qt, qp]; rfl)
        have hrs := fun W => Rest_any f p W (dir_le qf) qp
        have HTL := dir_le qt
        have HPL := path_le qp
        clear qf qt qp
        cases hr : restO f p with
        | none =>
          have HF : Hid (relO f t p = none) := Lib.hid (by rw [HREL.out, hr]; rfl)
          rw [hr] at hrs
          clear HPU HREL hr
          go_enter Tryd.func29, Tryd.ntmps29
          go_wp2_with (first
            | (go_at_call 28; refine (hdf _ hI).mono ?_; clear hdf; rintro e w1 ⟨rfl, hb1⟩; have hI1 := hI.call hb1)
            | (go_at_call 28; refine (hdt _ hI1).mono ?_; clear hdt; rintro e w2 ⟨rfl, hb2⟩; have hI2 := hI1.call hb2)
            | (go_at_call 43; refine (hpp _ hI2).mono ?_; clear hpp; rintro e w3 ⟨rfl, hb3⟩; have hI3 := hI2.call hb3)
            | (go_at_call 44; refine (hrs _).mono ?_; clear hrs; rintro e w3b ⟨rfl, rfl⟩))
          go_ret2
          rw [HF.out]
          exact ⟨rfl, (hI3.at_ 0 rfl : _ ∧ _).1⟩
        | some r =>
          have hrl := Nat.le_trans (rest_le hr) HPL
          have HF : Hid (relO f t p = finO (underB t r)) := Lib.hid (by rw [HREL.out, hr]; rfl)
          rw [hr] at hrs
          have hun := fun W => Under_any t r W HTL hrl
          have hun2 := hun
          have hu := HPU.out (underB t r)
          clear HPU HREL hr HTL HPL hrl
          generalize underB t r = u at *
          cases q3 : pathB u with
          | false =>
            have HF2 : Hid (relO f t p = none) := Lib.hid (by rw [HF.out]; unfold finO; rw [q3]; rfl)
            rw [q3] at hu
            clear q3 hun2
            go_enter Tryd.func29, Tryd.ntmps29
            go_wp2_with (first
              | (go_at_call 28; refine (hdf _ hI).mono ?_; clear hdf; rintro e w1 ⟨rfl, hb1⟩; have hI1 := hI.call hb1)
              | (go_at_call 28; refine (hdt _ hI1).mono ?_; clear hdt; rintro e w2 ⟨rfl, hb2⟩; have hI2 := hI1.call hb2)
              | (go_at_call 43; refine (hpp _ hI2).mono ?_; clear hpp; rintro e w3 ⟨rfl, hb3⟩; have hI3 := hI2.call hb3)
              | (go_at_call 44; refine (hrs _).mono ?_; clear hrs; rintro e w3b ⟨rfl, rfl⟩)
              | (go_at_call 45; refine (hun _).mono ?_; clear hun; rintro e w3c ⟨rfl, rfl⟩)
              | (go_at_call 43; refine (hu _ hI3).mono ?_; clear hu; rintro e w4 ⟨rfl, hb4⟩; have hI4 := hI3.call hb4))
            go_ret2
            rw [HF2.out]
            exact ⟨rfl, (hI4.at_ 0 rfl : _ ∧ _).1⟩
          | true =>
            have HF2 : Hid (relO f t p = some u) := Lib.hid (by rw [HF.out]; unfold finO; rw [q3]; rfl)
            rw [q3] at hu
            clear q3
            go_enter Tryd.func29, Tryd.ntmps29
            go_wp2_with (first
              | (go_at_call 28; refine (hdf _ hI).mono ?_; clear hdf; rintro e w1 ⟨rfl, hb1⟩; have hI1 := hI.call hb1)
              | (go_at_call 28; refine (hdt _ hI1).mono ?_; clear hdt; rintro e w2 ⟨rfl, hb2⟩; have hI2 := hI1.call hb2)
              | (go_at_call 43; refine (hpp _ hI2).mono ?_; clear hpp; rintro e w3 ⟨rfl, hb3⟩; have hI3 := hI2.call hb3)
              | (go_at_call 44; refine (hrs _).mono ?_; clear hrs; rintro e w3b ⟨rfl, rfl⟩)
              | (go_at_call 45; refine (hun _).mono ?_; clear hun; rintro e w3c ⟨rfl, rfl⟩)
              | (go_at_call 43; refine (hu _ hI3).mono ?_; clear hu; rintro e w4 ⟨rfl, hb4⟩; have hI4 := hI3.call hb4)
              | (go_at_call 45; refine (hun2 _).mono ?_; clear hun2; rintro e w3d ⟨rfl, rfl⟩))
            go_ret2
            rw [HF2.out]
            exact ⟨rfl, (hI4.at_ 0 rfl : _ ∧ _).1⟩
end Go.Proofs.YtipepcjiogifaaaDoor

/- A path chosen from a tape. -/
import Derived.Test.YtieobkgdkiahbaaDoorTape1
import Derived.Test.YtieobkgdkiahbaaDoorSnap2
set_option linter.unusedSimpArgs false
set_option linter.unusedVariables false
namespace Go.Adm
open Go Go.RowKit
def dirsL : List ByteArray := [⟨#[97]⟩, ⟨#[98]⟩, ⟨#[115, 114, 99]⟩, ⟨#[111, 117, 116]⟩, ⟨#[108, 105, 98]⟩]
def filesL : List ByteArray := [⟨#[97]⟩, ⟨#[98]⟩, ⟨#[97, 46, 99]⟩, ⟨#[98, 46, 104]⟩, ⟨#[120]⟩, ⟨#[111, 117, 116]⟩]
def preL : Nat → List ByteArray
  | 0 => [⟨#[]⟩]
  | m + 1 => (preL m).flatMap fun s => dirsL.map fun d => s ++ d ++ ⟨#[47]⟩
def pathsL : List ByteArray := (preL 0 ++ (preL 1 ++ preL 2)).flatMap fun s => filesL.map fun f => s ++ f
theorem paths_ok : (pathsL.all fun p => pathB p && decide (p.size ≤ 200)) = true := by decide +kernel
theorem pre_small : ((preL 0 ++ (preL 1 ++ preL 2)).all fun p => decide (p.size ≤ 100)) = true := by decide +kernel
theorem dirs_small : ((dirsL ++ filesL).all fun p => decide (p.size ≤ 10)) = true := by decide +kernel
theorem paths_of {s f : ByteArray} {m : Nat} (hm : m ≤ 2) (hs : s ∈ preL m) (hf : f ∈ filesL) : pathB (s ++ f) = true ∧ (s ++ f).size ≤ 200 := by
  have h := List.all_eq_true.1 paths_ok (s ++ f) (List.mem_flatMap.2 ⟨s, by
    rcases (by omega : m = 0 ∨ m = 1 ∨ m = 2) with rfl | rfl | rfl
    · exact List.mem_append.2 (.inl hs)
    · exact List.mem_append.2 (.inr (List.mem_append.2 (.inl hs)))
    · exact List.mem_append.2 (.inr (List.mem_append.2 (.inr hs))), List.mem_map.2 ⟨f, hf, rfl⟩⟩)
  simpa using h
theorem pre_size {s : ByteArray} {m : Nat} (hm : m ≤ 2) (hs : s ∈ preL m) : s.size ≤ 100 := by
  have h := List.all_eq_true.1 pre_small s (by
    rcases (by omega : m = 0 ∨ m = 1 ∨ m = 2) with rfl | rfl | rfl
    · exact List.mem_append.2 (.inl hs)
    · exact List.mem_append.2 (.inr (List.mem_append.2 (.inl hs)))
    · exact List.mem_append.2 (.inr (List.mem_append.2 (.inr hs))))
  simpa using h
theorem dir_size {s : ByteArray} (hs : s ∈ dirsL) : s.size ≤ 10 := by
  have h := List.all_eq_true.1 dirs_small s (List.mem_append.2 (.inl hs))
  simpa using h
theorem file_size {s : ByteArray} (hs : s ∈ filesL) : s.size ≤ 10 := by
  have h := List.all_eq_true.1 dirs_small s (List.mem_append.2 (.inr hs))
  simpa using h
end Go.Adm
namespace Go.Proofs.YtieobkgdkiahbaaDoor
open Go Go.RowKit Go.Adm

set_option maxRecDepth 100000 in
set_option maxHeartbeats 3200000 in
theorem TPath_any (w : World) (gt B : Nat) (A : Option Addr) (nl cl at_ : Nat) (L : List Int) (hc : Cells w gt 35 [.slice A nl cl, .int .i64 at_]) (hL : Rd w B 1 A nl (L.map iv)) (hB : B ≤ gt) (hat : at_ ≤ 900000) :
    Calls Tryd.prog 53 #[.pointer (some ⟨gt, 0, none⟩)] w fun e w' => ∃ (p : ByteArray) (m : Nat), m ≤ 4 ∧ pathB p = true ∧ p.size ≤ 200 ∧ e = .returned (.string p) ∧ TapeTo gt A nl cl (at_ + m) w w' := by
  have hlt := Cells.lt hc
  go_enter Tryd.func53, Tryd.ntmps53
  go_wp2_with fail
  refine (Next_any w gt B A nl cl at_ 3 L hc hL hB (by omega) (by omega) (by omega)).mono ?_
  rintro e w1 ⟨k, hk, rfl, hc1, hg1⟩
  have HL : Hid (∀ W, w.grownBy W (some gt) → Rd W B 1 A nl (L.map iv)) := Lib.hid (fun W hg => hL.keep fun p hp => World.cell?_of_block (hg.block p.block (by omega) (fun e => by have := Option.some.inj e; omega)))
  clear hc hL
  go_wp2_with fail
  go_loopw [3, 4] (fun v i wr => ∃ (s : ByteArray) (m j : Nat), m + j ≤ 2 ∧ s ∈ preL m ∧ v = .string s ∧ i = .int .i64 j ∧ TapeTo gt A nl cl (at_ + 1 + m) w wr) (fun _ i _ => (intOf i).toNat)
  case atStart => exact ⟨⟨#[]⟩, 0, k, by omega, by simp [preL], rfl, rfl, hc1, hg1⟩
  case round =>
    obtain ⟨s, m, j, hmj, hs, rfl, rfl, hcr, hgr⟩ := hrel
    have hsz := pre_size (by omega) hs
    have hsr := hgr.size
    by_cases hj : 0 < j
    · have d1 : decide (0 < (j : Int)) = true := by simp; omega
      have d2 : decide (0 < j) = true := by simp; omega
      go_wp2_with fail
      refine (Pick_any _ gt B A nl cl (at_ + 1 + m) L (hcr.alloc _) ((HL.out _ hgr).alloc (by omega) _) hB (by omega) dirsL wr.heap.size 5 9 (Cells.new' wr 9 _ rfl rfl) (by omega) (by decide) (by decide) 5 rfl).mono ?_
      rintro e w3 ⟨d, hd, rfl, hc3, hg3⟩
      have hdz := dir_size hd
      have hsz2 : (s ++ d).size = s.size + d.size := ByteArray.size_append
      have wj : IntKind.i64.wrap ((j : Int) - 1) = ((j - 1 : Nat) : Int) := by rw [IntWalk.i64_in _ (by omega)]; omega
      have a1 : (s.size : Int) + (d.size : Int) ≤ 9223372036854775807 := by omega
      have a2 : ((s ++ d).size : Int) + 1 ≤ 9223372036854775807 := by omega
      go_wp2_with fail
      refine ⟨⟨s ++ d ++ ⟨#[47]⟩, m + 1, j - 1, by omega, List.mem_flatMap.2 ⟨s, hs, List.mem_map.2 ⟨d, hd, rfl⟩⟩, rfl, rfl, ?_, (hgr.trans (World.grownBy_alloc _ _ _)).trans hg3⟩, by simp [intOf]; omega⟩
      rw [show at_ + 1 + (m + 1) = at_ + 1 + m + 1 from by omega]
      exact hc3
    · have d1 : decide (0 < (j : Int)) = false := by simp; omega
      have d2 : decide (0 < j) = false := by simp; omega
      go_wp2_with fail
      refine (Pick_any _ gt B A nl cl (at_ + 1 + m) L (hcr.alloc _) ((HL.out _ hgr).alloc (by omega) _) hB (by omega) filesL wr.heap.size 6 9 (Cells.new' wr 9 _ rfl rfl) (by omega) (by decide) (by decide) 6 rfl).mono ?_
      rintro e w3 ⟨d, hd, rfl, hc3, hg3⟩
      have hdz := file_size hd
      have a1 : (s.size : Int) + (d.size : Int) ≤ 9223372036854775807 := by omega
      go_wp2_with fail
      go_ret
      obtain ⟨p1, p2⟩ := paths_of (by omega) hs hd
      refine ⟨s ++ d, m + 2, by omega, p1, p2, rfl, ?_, (hgr.trans (World.grownBy_alloc _ _ _)).trans hg3⟩
      rw [show at_ + (m + 2) = at_ + 1 + m + 1 from by omega]
      exact hc3
end Go.Proofs.YtieobkgdkiahbaaDoor

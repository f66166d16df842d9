/- Patterns: their parts, both sides. -/
import Derived.Test.YtipepcjiogifaaaDoorPtP
import Derived.Test.YtipepcjiogifaaaDoorSnap4
import Derived.Test.YtipepcjiogifaaaDoorRef1
set_option linter.unusedSimpArgs false
set_option linter.unusedVariables false
set_option maxRecDepth 100000
namespace Go.Adm
open Go Go.RowKit
def PtPost (tid : TypeId) (r : Option (List Pt)) (w : World) (e : Ending) (w' : World) : Prop :=
  ∃ A c, e = .returned (.tuple #[.slice A (r.getD []).length c, .bool r.isSome]) ∧ Go.Adm.Own w' w.heap.size tid 2 A (r.getD []).length c ((r.getD []).map partC).flatten ∧ Below w.heap.size w w'
theorem PtPost.none {tid : TypeId} {w w' : World} {e : Ending} (he : e = .returned (.tuple #[.slice none 0 0, .bool false])) (hb : Below w.heap.size w w') : PtPost tid Option.none w e w' := ⟨Option.none, 0, he, Own.nil _ _ _ _, hb⟩
theorem fill_part (k : Int) (c : Int) (kc : IntKind) : Instr.fill (#[(0, 1), (1, 1)][·]?) #[Value.int .i64 0, Value.int .u8 0] [(0, .int .i64 k), (1, .int .u8 c)] = some #[.int .i64 k, .int .u8 c] := by
  refine (fill_step (off := 0) (size := 1) (es := [.int .i64 k]) (pre := []) (old := [Value.int .i64 0]) (post := [Value.int .u8 0]) rfl rfl rfl rfl rfl rfl).trans ?_
  refine (fill_step (off := 1) (size := 1) (es := [.int .u8 c]) (pre := [.int .i64 k]) (old := [Value.int .u8 0]) (post := []) rfl rfl rfl rfl rfl rfl).trans ?_
  rfl
theorem fill_part1 (k : Int) : Instr.fill (#[(0, 1), (1, 1)][·]?) #[Value.int .i64 0, Value.int .u8 0] [(0, .int .i64 k)] = some #[.int .i64 k, .int .u8 0] := by
  refine (fill_step (off := 0) (size := 1) (es := [.int .i64 k]) (pre := []) (old := [Value.int .i64 0]) (post := [Value.int .u8 0]) rfl rfl rfl rfl rfl rfl).trans ?_
  rfl
theorem pats_none {s : ByteArray} (h : patR s.data.toList = none) : patS s = none := by unfold patS; split <;> first | rfl | exact h
theorem pats_ok {s : ByteArray} (h1 : ¬ s.size < 1) (h2 : ¬ 200 < s.size) : patS s = patR s.data.toList := by unfold patS; rw [if_neg (by omega)]
theorem pats_len {s : ByteArray} (h : s.size < 1 ∨ 200 < s.size) : patS s = none := by unfold patS; rw [if_pos h]
end Go.Adm
namespace Go.Proofs.YtipepcjiogifaaaDoor
open Go Go.RowKit Go.Adm
theorem zero_pp (w : World) : (zeroValue 74).run Tryd.prog w = .ok (.agg #[Value.int .i64 0, Value.int .u8 0]) w := by kernel_rfl
theorem el_pp : ElemOf Tryd.prog 69 74 (.agg #[Value.int .i64 0, Value.int .u8 0]) 2 16 := ElemOf.mk' Tryd.underlying69 (by kernel_rfl) rfl (by decide) (by decide)
theorem zero_pr (w : World) : (zeroValue 81).run Tryd.prog w = .ok (.agg #[Value.int .i64 0, Value.int .u8 0]) w := by kernel_rfl
theorem el_pr : ElemOf Tryd.prog 77 81 (.agg #[Value.int .i64 0, Value.int .u8 0]) 2 16 := ElemOf.mk' Tryd.underlying77 (by kernel_rfl) rfl (by decide) (by decide)
set_option maxHeartbeats 12800000 in
theorem Parse_pat (s : ByteArray) (w : World) (hs : s.size ≤ 140737488355328) :
    Calls Tryd.prog 46 #[.string s] w (PtPost 74 (patS s) w) := by
  have hzr := zero_pp
  by_cases q1 : s.size < 1
  · have HF : Hid (patS s = none) := Lib.hid (pats_len (.inl q1))
    have d1 : decide ((s.size : Int) < 1) = true := by simp; omega
    go_enter Tryd.func46, Tryd.ntmps46
    go_wp2_with fail
    go_ret2
    rw [HF.out]
    exact PtPost.none rfl (Below.refl _ _)
  have d1 : decide ((s.size : Int) < 1) = false := by simp; omega
  by_cases q2 : 200 < s.size
  · have HF : Hid (patS s = none) := Lib.hid (pats_len (.inr q2))
    have d2 : decide ((200 : Int) < (s.size : Int)) = true := by simp; omega
    go_enter Tryd.func46, Tryd.ntmps46
    go_wp2_with fail
    go_ret2
    rw [HF.out]
    exact PtPost.none rfl (Below.refl _ _)
  have d2 : decide ((200 : Int) < (s.size : Int)) = false := by simp; omega
  have HS : Hid (patS s = patR s.data.toList) := Lib.hid (pats_ok q1 q2)
  have hix := IndexByte_any s 0 w
  by_cases q3 : 0 ≤ Lib.indexByte s.data.toList 0
  · have HF : Hid (patS s = none) := Lib.hid (pats_none (pat_zero _ _ (Nat.le_refl _) ((idx0 _).1 q3)))
    have d3 : decide (0 ≤ Lib.indexByte s.data.toList 0) = true := by simpa using q3
    clear q3
    go_enter Tryd.func46, Tryd.ntmps46
    go_wp2_with (go_at_call 39; refine hix.mono ?_; clear hix; rintro e w' ⟨rfl, rfl⟩)
    go_ret2
    rw [HF.out]
    exact PtPost.none rfl (Below.refl _ _)
  have d3 : decide (0 ≤ Lib.indexByte s.data.toList 0) = false := by simpa using q3
  have HZ : Hid (∀ k (h : k < s.size), s[k] ≠ 0) := Lib.hid (fun k h e => q3 ((idx0 _).2 (List.mem_of_getElem? ((ba_at s h).trans (by rw [e])))))
  clear q3
  generalize Lib.indexByte s.data.toList 0 = ix at *
  go_enter Tryd.func46, Tryd.ntmps46
  have hix2 := hix.mono (fun e w' (h : _ ∧ w' = w) => (⟨h.1, h.2.symm⟩ : _ ∧ w = w'))
  clear hix
  go_wp2_with (go_at_call 39; refine hix2.mono ?_; clear hix2; rintro e w' ⟨rfl, rfl⟩)
  go_loopw [4, 5] (fun v i wr => ∃ (k : Nat) (A' : Option Addr) (c' : Nat) (out : List Pt), i = .int .i64 k ∧ v = .slice A' out.length c' ∧ k ≤ s.size ∧ out.length ≤ k ∧ Hid (PA s.data.toList out k) ∧ All wr [.own w.heap.size 74 2 A' out.length c' (out.map partC).flatten, .kept w w.heap.size]) (fun _ i _ => s.size - (intOf i).toNat)
  case atStart => exact ⟨0, none, 0, [], rfl, rfl, Nat.zero_le _, Nat.le_refl _, Lib.hid (PA.zero _), Go.Adm.Own.nil _ _ _ _, ⟨Below.refl _ _, Nat.le_refl _⟩, trivial⟩
  case round =>
    obtain ⟨k, A', c', out, rfl, rfl, hk, hol, HP, hI⟩ := hrel
    by_cases hlt : k < s.size
    · have d0 : decide ((k : Int) < (s.size : Int)) = true := by simp; omega
      have wk0 : (0 : Int) ≤ (k : Int) := by omega
      have wk1 : (k : Int) < (s.size : Int) := by omega
      have wk2 : ((k : Int)).toNat = k := by omega
      have wk3 : IntKind.i64.wrap ((k : Int) + 1) = ((k + 1 : Nat) : Int) := by rw [IntWalk.i64_in _ (by omega)]; omega
      have wk4 : IntKind.i64.wrap (((k + 1 : Nat) : Int) + 1) = ((k + 2 : Nat) : Int) := by rw [IntWalk.i64_in _ (by omega)]; omega
      have B0 := Lib.hid (ba_at s hlt)
      by_cases b92 : s[k].toNat = 92
      · have HB : Hid (s[k] = 92) := Lib.hid (of_nat b92)
        by_cases hend : k + 1 < s.size
        · have v1 : decide (((k + 1 : Nat) : Int) = (s.size : Int)) = false := by simp; omega
          have v2 : (0 : Int) ≤ ((k + 1 : Nat) : Int) := by omega
          have v3 : ((k + 1 : Nat) : Int) < (s.size : Int) := by omega
          have v4 : (((k + 1 : Nat) : Int)).toNat = k + 1 := by omega
          have B1 := Lib.hid (ba_at s hend)
          have HC0 := Lib.hid (HZ.out _ hend)
          go_wp2_with (first
            | (refine wl_build rfl 74 [(0, .const (.int .i64 0)), (1, .tmp 46)] rfl _ _ #[(0, 1), (1, 1)] (partC (0, s[k + 1])).toArray zero_pp Tryd.underlying74 (fun w => by kernel_rfl) ?_ ?_; exact fill_part 0 _ .u8)
            | (refine wl_lit1 el_pp rfl (.tmp 47) rfl (partC (0, s[k + 1])) rfl rfl (by decide) ?_; have hI2 := hI.alloc (.cells (partC (0, s[k + 1])).toArray 74); have hrd2 : Rd (wr.alloc (.cells (partC (0, s[k + 1])).toArray 74)) (wr.heap.size + 1) 2 (some ⟨wr.heap.size, 0, none⟩) 1 (partC (0, s[k + 1])) := Rd.lit (size := 2) wr (partC (0, s[k + 1])).toArray 74 1 rfl)
            | (at_builtin; refine wl_app_at el_pp hI2 0 rfl (.tmp 43) (.tmp 48) rfl w.heap.size _ _ _ _ rfl rfl (wr.heap.size + 1) _ 1 1 (partC (0, s[k + 1])) rfl hrd2 (partC_one _) (by omega) (by have := (hI.at_ 1 rfl : _ ∧ w.heap.size ≤ wr.heap.size).2; simp; omega) (fun g hg _ => ⟨fun g' e => (by injection e with e; omega), trivial⟩) ?_; intro A7 c7 w7 hI7 hs7))
          simp only [List.set_cons_zero] at hI7
          refine ⟨⟨k + 2, A7, c7, out ++ [(0, s[k + 1])], by go_num, by rw [List.length_append]; rfl, by omega, by rw [List.length_append, List.length_singleton]; omega, Lib.hid (HP.out.step (0, s[k + 1]) (by rw [drop2 B0.out B1.out, HB.out]; exact pat_esc _ HC0.out)), ?_⟩, by simp [intOf]; omega⟩
          rw [List.length_append, List.map_append, List.flatten_append]
          simpa using hI7
        · have v1 : decide (((k + 1 : Nat) : Int) = (s.size : Int)) = true := by simp; omega
          have HF : Hid (patS s = none) := Lib.hid (pats_none (HP.out.bad (by rw [drop1 B0.out, HB.out, List.drop_eq_nil_of_le (by rw [Array.length_toList]; show s.size ≤ _; omega)]; exact pat_esc_end)))
          go_wp2_with fail
          go_ret2
          rw [HF.out]
          exact PtPost.none rfl (hI.at_ 1 rfl : _ ∧ _).1
      · have n92 : decide ((s[k].toNat : Int) = 92) = false := by simp; omega
        have m92 : decide (s[k].toNat = 92) = false := by simp; omega
        by_cases b63 : s[k].toNat = 63
        · have HB : Hid (s[k] = 63) := Lib.hid (of_nat b63)
          go_wp2_with (first
            | (refine wl_build rfl 74 [(0, .const (.int .i64 1))] rfl _ _ #[(0, 1), (1, 1)] (partC (1, 0)).toArray zero_pp Tryd.underlying74 (fun w => by kernel_rfl) ?_ ?_; exact fill_part1 1)
            | (refine wl_lit1 el_pp rfl (.tmp 56) rfl (partC (1, 0)) rfl rfl (by decide) ?_; have hI2 := hI.alloc (.cells (partC (1, 0)).toArray 74); have hrd2 : Rd (wr.alloc (.cells (partC (1, 0)).toArray 74)) (wr.heap.size + 1) 2 (some ⟨wr.heap.size, 0, none⟩) 1 (partC (1, 0)) := Rd.lit (size := 2) wr (partC (1, 0)).toArray 74 1 rfl)
            | (at_builtin; refine wl_app_at el_pp hI2 0 rfl (.tmp 55) (.tmp 57) rfl w.heap.size _ _ _ _ rfl rfl (wr.heap.size + 1) _ 1 1 (partC (1, 0)) rfl hrd2 (partC_one _) (by omega) (by have := (hI.at_ 1 rfl : _ ∧ w.heap.size ≤ wr.heap.size).2; simp; omega) (fun g hg _ => ⟨fun g' e => (by injection e with e; omega), trivial⟩) ?_; intro A7 c7 w7 hI7 hs7))
          simp only [List.set_cons_zero] at hI7
          refine ⟨⟨k + 1, A7, c7, out ++ [(1, 0)], by go_num, by rw [List.length_append]; rfl, by omega, by rw [List.length_append, List.length_singleton]; omega, Lib.hid (HP.out.step (1, 0) (by rw [drop1 B0.out, HB.out]; exact pat_q _)), ?_⟩, by simp [intOf]; omega⟩
          rw [List.length_append, List.map_append, List.flatten_append]
          simpa using hI7
        · have n63 : decide ((s[k].toNat : Int) = 63) = false := by simp; omega
          have m63 : decide (s[k].toNat = 63) = false := by simp; omega
          by_cases b42 : s[k].toNat = 42
          · have HB : Hid (s[k] = 42) := Lib.hid (of_nat b42)
            by_cases hend : k + 1 < s.size
            · have v1 : decide (((k + 1 : Nat) : Int) < (s.size : Int)) = true := by simp; omega
              have v2 : (0 : Int) ≤ ((k + 1 : Nat) : Int) := by omega
              have v3 : ((k + 1 : Nat) : Int) < (s.size : Int) := by omega
              have v4 : (((k + 1 : Nat) : Int)).toNat = k + 1 := by omega
              have B1 := Lib.hid (ba_at s hend)
              by_cases c42 : s[k + 1].toNat = 42
              · have HC : Hid (s[k + 1] = 42) := Lib.hid (of_nat c42)
                go_wp2_with (first
                  | (refine wl_build rfl 74 [(0, .const (.int .i64 3))] rfl _ _ #[(0, 1), (1, 1)] (partC (3, 0)).toArray zero_pp Tryd.underlying74 (fun w => by kernel_rfl) ?_ ?_; exact fill_part1 3)
                  | (refine wl_lit1 el_pp rfl (.tmp 81) rfl (partC (3, 0)) rfl rfl (by decide) ?_; have hI2 := hI.alloc (.cells (partC (3, 0)).toArray 74); have hrd2 : Rd (wr.alloc (.cells (partC (3, 0)).toArray 74)) (wr.heap.size + 1) 2 (some ⟨wr.heap.size, 0, none⟩) 1 (partC (3, 0)) := Rd.lit (size := 2) wr (partC (3, 0)).toArray 74 1 rfl)
                  | (at_builtin; refine wl_app_at el_pp hI2 0 rfl (.tmp 80) (.tmp 82) rfl w.heap.size _ _ _ _ rfl rfl (wr.heap.size + 1) _ 1 1 (partC (3, 0)) rfl hrd2 (partC_one _) (by omega) (by have := (hI.at_ 1 rfl : _ ∧ w.heap.size ≤ wr.heap.size).2; simp; omega) (fun g hg _ => ⟨fun g' e => (by injection e with e; omega), trivial⟩) ?_; intro A7 c7 w7 hI7 hs7))
                simp only [List.set_cons_zero] at hI7
                refine ⟨⟨k + 2, A7, c7, out ++ [(3, 0)], by go_num, by rw [List.length_append]; rfl, by omega, by rw [List.length_append, List.length_singleton]; omega, Lib.hid (HP.out.step (3, 0) (by rw [drop2 B0.out B1.out, HB.out, HC.out]; exact pat_ss _)), ?_⟩, by simp [intOf]; omega⟩
                rw [List.length_append, List.map_append, List.flatten_append]
                simpa using hI7
              · have n1 : decide ((s[k + 1].toNat : Int) = 42) = false := by simp; omega
                have m1 : decide (s[k + 1].toNat = 42) = false := by simp; omega
                have HC : Hid (s[k + 1] ≠ 42) := Lib.hid (fun e => c42 (by rw [e]; rfl))
                go_wp2_with (first
                  | (refine wl_build rfl 74 [(0, .const (.int .i64 2))] rfl _ _ #[(0, 1), (1, 1)] (partC (2, 0)).toArray zero_pp Tryd.underlying74 (fun w => by kernel_rfl) ?_ ?_; exact fill_part1 2)
                  | (refine wl_lit1 el_pp rfl (.tmp 90) rfl (partC (2, 0)) rfl rfl (by decide) ?_; have hI2 := hI.alloc (.cells (partC (2, 0)).toArray 74); have hrd2 : Rd (wr.alloc (.cells (partC (2, 0)).toArray 74)) (wr.heap.size + 1) 2 (some ⟨wr.heap.size, 0, none⟩) 1 (partC (2, 0)) := Rd.lit (size := 2) wr (partC (2, 0)).toArray 74 1 rfl)
                  | (at_builtin; refine wl_app_at el_pp hI2 0 rfl (.tmp 89) (.tmp 91) rfl w.heap.size _ _ _ _ rfl rfl (wr.heap.size + 1) _ 1 1 (partC (2, 0)) rfl hrd2 (partC_one _) (by omega) (by have := (hI.at_ 1 rfl : _ ∧ w.heap.size ≤ wr.heap.size).2; simp; omega) (fun g hg _ => ⟨fun g' e => (by injection e with e; omega), trivial⟩) ?_; intro A7 c7 w7 hI7 hs7))
                simp only [List.set_cons_zero] at hI7
                refine ⟨⟨k + 1, A7, c7, out ++ [(2, 0)], by go_num, by rw [List.length_append]; rfl, by omega, by rw [List.length_append, List.length_singleton]; omega, Lib.hid (HP.out.step (2, 0) (by rw [drop1 B0.out, HB.out]; exact pat_s (fun r' e => HC.out (by rw [drop1 B1.out] at e; injection e)))), ?_⟩, by simp [intOf]; omega⟩
                rw [List.length_append, List.map_append, List.flatten_append]
                simpa using hI7
            · have v1 : decide (((k + 1 : Nat) : Int) < (s.size : Int)) = false := by simp; omega
              go_wp2_with (first
                | (refine wl_build rfl 74 [(0, .const (.int .i64 2))] rfl _ _ #[(0, 1), (1, 1)] (partC (2, 0)).toArray zero_pp Tryd.underlying74 (fun w => by kernel_rfl) ?_ ?_; exact fill_part1 2)
                | (refine wl_lit1 el_pp rfl (.tmp 90) rfl (partC (2, 0)) rfl rfl (by decide) ?_; have hI2 := hI.alloc (.cells (partC (2, 0)).toArray 74); have hrd2 : Rd (wr.alloc (.cells (partC (2, 0)).toArray 74)) (wr.heap.size + 1) 2 (some ⟨wr.heap.size, 0, none⟩) 1 (partC (2, 0)) := Rd.lit (size := 2) wr (partC (2, 0)).toArray 74 1 rfl)
                | (at_builtin; refine wl_app_at el_pp hI2 0 rfl (.tmp 89) (.tmp 91) rfl w.heap.size _ _ _ _ rfl rfl (wr.heap.size + 1) _ 1 1 (partC (2, 0)) rfl hrd2 (partC_one _) (by omega) (by have := (hI.at_ 1 rfl : _ ∧ w.heap.size ≤ wr.heap.size).2; simp; omega) (fun g hg _ => ⟨fun g' e => (by injection e with e; omega), trivial⟩) ?_; intro A7 c7 w7 hI7 hs7))
              simp only [List.set_cons_zero] at hI7
              refine ⟨⟨k + 1, A7, c7, out ++ [(2, 0)], by go_num, by rw [List.length_append]; rfl, by omega, by rw [List.length_append, List.length_singleton]; omega, Lib.hid (HP.out.step (2, 0) (by rw [drop1 B0.out, HB.out, List.drop_eq_nil_of_le (by rw [Array.length_toList]; show s.size ≤ _; omega)]; exact pat_s (fun r' e => by cases e))), ?_⟩, by simp [intOf]; omega⟩
              rw [List.length_append, List.map_append, List.flatten_append]
              simpa using hI7
          · have n42 : decide ((s[k].toNat : Int) = 42) = false := by simp; omega
            have m42 : decide (s[k].toNat = 42) = false := by simp; omega
            have HB : Hid (s[k] ≠ 92 ∧ s[k] ≠ 63 ∧ s[k] ≠ 42) := Lib.hid ⟨fun e => b92 (by rw [e]; rfl), fun e => b63 (by rw [e]; rfl), fun e => b42 (by rw [e]; rfl)⟩
            have HC0 := Lib.hid (HZ.out _ hlt)
            go_wp2_with (first
              | (refine wl_build rfl 74 [(0, .const (.int .i64 0)), (1, .tmp 28)] rfl _ _ #[(0, 1), (1, 1)] (partC (0, s[k])).toArray zero_pp Tryd.underlying74 (fun w => by kernel_rfl) ?_ ?_; exact fill_part 0 _ .u8)
              | (refine wl_lit1 el_pp rfl (.tmp 29) rfl (partC (0, s[k])) rfl rfl (by decide) ?_; have hI2 := hI.alloc (.cells (partC (0, s[k])).toArray 74); have hrd2 : Rd (wr.alloc (.cells (partC (0, s[k])).toArray 74)) (wr.heap.size + 1) 2 (some ⟨wr.heap.size, 0, none⟩) 1 (partC (0, s[k])) := Rd.lit (size := 2) wr (partC (0, s[k])).toArray 74 1 rfl)
              | (at_builtin; refine wl_app_at el_pp hI2 0 rfl (.tmp 25) (.tmp 30) rfl w.heap.size _ _ _ _ rfl rfl (wr.heap.size + 1) _ 1 1 (partC (0, s[k])) rfl hrd2 (partC_one _) (by omega) (by have := (hI.at_ 1 rfl : _ ∧ w.heap.size ≤ wr.heap.size).2; simp; omega) (fun g hg _ => ⟨fun g' e => (by injection e with e; omega), trivial⟩) ?_; intro A7 c7 w7 hI7 hs7))
            simp only [List.set_cons_zero] at hI7
            refine ⟨⟨k + 1, A7, c7, out ++ [(0, s[k])], by go_num, by rw [List.length_append]; rfl, by omega, by rw [List.length_append, List.length_singleton]; omega, Lib.hid (HP.out.step (0, s[k]) (by rw [drop1 B0.out]; exact pat_lit _ HC0.out HB.out.1 HB.out.2.1 HB.out.2.2)), ?_⟩, by simp [intOf]; omega⟩
            rw [List.length_append, List.map_append, List.flatten_append]
            simpa using hI7
    · have d0 : decide ((k : Int) < (s.size : Int)) = false := by simp; omega
      have HF : Hid (patS s = some out) := Lib.hid (by rw [HS.out]; exact HP.out.done (by rw [Array.length_toList]; show s.size ≤ k; omega))
      go_wp2_with fail
      go_ret2
      rw [HF.out]
      exact ⟨A', c', rfl, hI.at_ 0 rfl, (hI.at_ 1 rfl : _ ∧ _).1⟩
set_option maxHeartbeats 12800000 in
theorem read_pat (s : ByteArray) (w : World) (hs : s.size ≤ 140737488355328) :
    Calls Tryd.prog 49 #[.string s] w (PtPost 81 (patS s) w) := by
  have hzr := zero_pr
  by_cases q1 : s.size < 1
  · have HF : Hid (patS s = none) := Lib.hid (pats_len (.inl q1))
    have d1 : (s.toList == []) = true := by rw [ByteArray.toList_eq]; have : s.data.toList.length = s.size := Array.length_toList; have h0 : s.data.toList = [] := List.eq_nil_of_length_eq_zero (by omega); rw [h0]; rfl
    go_enter Tryd.func49, Tryd.ntmps49
    go_wp2_with fail
    go_ret2
    rw [HF.out]
    exact PtPost.none rfl (Below.refl _ _)
  have d1 : (s.toList == []) = false := by
    rw [beq_eq_false_iff_ne, ByteArray.toList_eq]
    intro e
    have h : s.data.toList.length = s.size := Array.length_toList
    rw [e] at h
    simp at h
    omega
  by_cases q2 : 200 < s.size
  · have HF : Hid (patS s = none) := Lib.hid (pats_len (.inr q2))
    have d2 : decide ((200 : Int) < (s.size : Int)) = true := by simp; omega
    go_enter Tryd.func49, Tryd.ntmps49
    go_wp2_with fail
    go_ret2
    rw [HF.out]
    exact PtPost.none rfl (Below.refl _ _)
  have d2 : decide ((200 : Int) < (s.size : Int)) = false := by simp; omega
  have HS : Hid (patS s = patR s.data.toList) := Lib.hid (pats_ok q1 q2)
  go_enter Tryd.func49, Tryd.ntmps49
  go_wp2_with fail
  go_loopw [4, 5] (fun v i wr => ∃ (k : Nat) (A' : Option Addr) (c' : Nat) (out : List Pt), i = .int .i64 k ∧ v = .slice A' out.length c' ∧ k ≤ s.size ∧ out.length ≤ k ∧ Hid (PA s.data.toList out k) ∧ All wr [.own w.heap.size 81 2 A' out.length c' (out.map partC).flatten, .kept w w.heap.size]) (fun _ i _ => s.size - (intOf i).toNat)
  case atStart => exact ⟨0, none, 0, [], rfl, rfl, Nat.zero_le _, Nat.le_refl _, Lib.hid (PA.zero _), Go.Adm.Own.nil _ _ _ _, ⟨Below.refl _ _, Nat.le_refl _⟩, trivial⟩
  case round =>
    obtain ⟨k, A', c', out, rfl, rfl, hk, hol, HP, hI⟩ := hrel
    by_cases hlt : k < s.size
    · have d0 : decide ((k : Int) < (s.size : Int)) = true := by simp; omega
      have wk0 : (0 : Int) ≤ (k : Int) := by omega
      have wk1 : (k : Int) < (s.size : Int) := by omega
      have wk2 : ((k : Int)).toNat = k := by omega
      have wk3 : IntKind.i64.wrap ((k : Int) + 1) = ((k + 1 : Nat) : Int) := by rw [IntWalk.i64_in _ (by omega)]; omega
      have wk4 : IntKind.i64.wrap (((k + 1 : Nat) : Int) + 1) = ((k + 2 : Nat) : Int) := by rw [IntWalk.i64_in _ (by omega)]; omega
      have B0 := Lib.hid (ba_at s hlt)
      by_cases b0 : s[k].toNat = 0
      · have HB : Hid (s[k] = 0) := Lib.hid (of_nat b0)
        have HF : Hid (patS s = none) := Lib.hid (pats_none (HP.out.bad (by rw [drop1 B0.out, HB.out]; exact pat_0 _)))
        go_wp2_with fail
        go_ret2
        rw [HF.out]
        exact PtPost.none rfl (hI.at_ 1 rfl : _ ∧ _).1
      · have n0 : decide ((s[k].toNat : Int) = 0) = false := by simp; omega
        have m0 : decide (s[k].toNat = 0) = false := by simp; omega
        by_cases b92 : s[k].toNat = 92
        · have HB : Hid (s[k] = 92) := Lib.hid (of_nat b92)
          by_cases hend : k + 1 < s.size
          · have v1 : decide (((k + 1 : Nat) : Int) = (s.size : Int)) = false := by simp; omega
            have v2 : (0 : Int) ≤ ((k + 1 : Nat) : Int) := by omega
            have v3 : ((k + 1 : Nat) : Int) < (s.size : Int) := by omega
            have v4 : (((k + 1 : Nat) : Int)).toNat = k + 1 := by omega
            have B1 := Lib.hid (ba_at s hend)
            by_cases c0 : s[k + 1].toNat = 0
            · have HC : Hid (s[k + 1] = 0) := Lib.hid (of_nat c0)
              have HF : Hid (patS s = none) := Lib.hid (pats_none (HP.out.bad (by rw [drop2 B0.out B1.out, HB.out, HC.out]; exact pat_esc_0 _)))
              go_wp2_with fail
              go_ret2
              rw [HF.out]
              exact PtPost.none rfl (hI.at_ 1 rfl : _ ∧ _).1
            · have n1 : decide ((s[k + 1].toNat : Int) = 0) = false := by simp; omega
              have m1 : decide (s[k + 1].toNat = 0) = false := by simp; omega
              have HC0 : Hid (s[k + 1] ≠ 0) := Lib.hid (fun e => c0 (by rw [e]; rfl))
              have x1 : ((k : Int) + 1 == (s.size : Int)) = false := by rw [beq_eq_false_iff_ne]; omega
              have x2 : ((s[k + 1].toNat : Int) == 0) = false := by rw [beq_eq_false_iff_ne]; omega
              go_wp2_with (first
                | (refine wl_build rfl 81 [(0, .const (.int .i64 0)), (1, .tmp 50)] rfl _ _ #[(0, 1), (1, 1)] (partC (0, s[k + 1])).toArray zero_pr Tryd.underlying81 (fun w => by kernel_rfl) ?_ ?_; exact fill_part 0 _ .u8)
                | (refine wl_lit1 el_pr rfl (.tmp 51) rfl (partC (0, s[k + 1])) rfl rfl (by decide) ?_; have hI2 := hI.alloc (.cells (partC (0, s[k + 1])).toArray 81); have hrd2 : Rd (wr.alloc (.cells (partC (0, s[k + 1])).toArray 81)) (wr.heap.size + 1) 2 (some ⟨wr.heap.size, 0, none⟩) 1 (partC (0, s[k + 1])) := Rd.lit (size := 2) wr (partC (0, s[k + 1])).toArray 81 1 rfl)
                | (at_builtin; refine wl_app_at el_pr hI2 0 rfl (.tmp 47) (.tmp 52) rfl w.heap.size _ _ _ _ rfl rfl (wr.heap.size + 1) _ 1 1 (partC (0, s[k + 1])) rfl hrd2 (partC_one _) (by omega) (by have := (hI.at_ 1 rfl : _ ∧ w.heap.size ≤ wr.heap.size).2; simp; omega) (fun g hg _ => ⟨fun g' e => (by injection e with e; omega), trivial⟩) ?_; intro A7 c7 w7 hI7 hs7))
              simp only [List.set_cons_zero] at hI7
              refine ⟨⟨k + 2, A7, c7, out ++ [(0, s[k + 1])], by go_num, by rw [List.length_append]; rfl, by omega, by rw [List.length_append, List.length_singleton]; omega, Lib.hid (HP.out.step (0, s[k + 1]) (by rw [drop2 B0.out B1.out, HB.out]; exact pat_esc _ HC0.out)), ?_⟩, by simp [intOf]; omega⟩
              rw [List.length_append, List.map_append, List.flatten_append]
              simpa using hI7
          · have v1 : decide (((k + 1 : Nat) : Int) = (s.size : Int)) = true := by simp; omega
            have HF : Hid (patS s = none) := Lib.hid (pats_none (HP.out.bad (by rw [drop1 B0.out, HB.out, List.drop_eq_nil_of_le (by rw [Array.length_toList]; show s.size ≤ _; omega)]; exact pat_esc_end)))
            go_wp2_with fail
            go_ret2
            rw [HF.out]
            exact PtPost.none rfl (hI.at_ 1 rfl : _ ∧ _).1
        · have n92 : decide ((s[k].toNat : Int) = 92) = false := by simp; omega
          have m92 : decide (s[k].toNat = 92) = false := by simp; omega
          by_cases b42 : s[k].toNat = 42
          · have HB : Hid (s[k] = 42) := Lib.hid (of_nat b42)
            by_cases hend : k + 1 < s.size
            · have v1 : decide (((k + 1 : Nat) : Int) < (s.size : Int)) = true := by simp; omega
              have v2 : (0 : Int) ≤ ((k + 1 : Nat) : Int) := by omega
              have v3 : ((k + 1 : Nat) : Int) < (s.size : Int) := by omega
              have v4 : (((k + 1 : Nat) : Int)).toNat = k + 1 := by omega
              have B1 := Lib.hid (ba_at s hend)
              by_cases c42 : s[k + 1].toNat = 42
              · have HC : Hid (s[k + 1] = 42) := Lib.hid (of_nat c42)
                go_wp2_with (first
                  | (refine wl_build rfl 81 [(0, .const (.int .i64 3)), (1, .const (.int .u8 0))] rfl _ _ #[(0, 1), (1, 1)] (partC (3, 0)).toArray zero_pr Tryd.underlying81 (fun w => by kernel_rfl) ?_ ?_; exact fill_part 3 0 .u8)
                  | (refine wl_lit1 el_pr rfl (.tmp 71) rfl (partC (3, 0)) rfl rfl (by decide) ?_; have hI2 := hI.alloc (.cells (partC (3, 0)).toArray 81); have hrd2 : Rd (wr.alloc (.cells (partC (3, 0)).toArray 81)) (wr.heap.size + 1) 2 (some ⟨wr.heap.size, 0, none⟩) 1 (partC (3, 0)) := Rd.lit (size := 2) wr (partC (3, 0)).toArray 81 1 rfl)
                  | (at_builtin; refine wl_app_at el_pr hI2 0 rfl (.tmp 70) (.tmp 72) rfl w.heap.size _ _ _ _ rfl rfl (wr.heap.size + 1) _ 1 1 (partC (3, 0)) rfl hrd2 (partC_one _) (by omega) (by have := (hI.at_ 1 rfl : _ ∧ w.heap.size ≤ wr.heap.size).2; simp; omega) (fun g hg _ => ⟨fun g' e => (by injection e with e; omega), trivial⟩) ?_; intro A7 c7 w7 hI7 hs7))
                simp only [List.set_cons_zero] at hI7
                refine ⟨⟨k + 2, A7, c7, out ++ [(3, 0)], by go_num, by rw [List.length_append]; rfl, by omega, by rw [List.length_append, List.length_singleton]; omega, Lib.hid (HP.out.step (3, 0) (by rw [drop2 B0.out B1.out, HB.out, HC.out]; exact pat_ss _)), ?_⟩, by simp [intOf]; omega⟩
                rw [List.length_append, List.map_append, List.flatten_append]
                simpa using hI7
              · have n1 : decide ((s[k + 1].toNat : Int) = 42) = false := by simp; omega
                have m1 : decide (s[k + 1].toNat = 42) = false := by simp; omega
                have HC : Hid (s[k + 1] ≠ 42) := Lib.hid (fun e => c42 (by rw [e]; rfl))
                go_wp2_with (first
                  | (refine wl_build rfl 81 [(0, .const (.int .i64 2)), (1, .const (.int .u8 0))] rfl _ _ #[(0, 1), (1, 1)] (partC (2, 0)).toArray zero_pr Tryd.underlying81 (fun w => by kernel_rfl) ?_ ?_; exact fill_part 2 0 .u8)
                  | (refine wl_lit1 el_pr rfl (.tmp 75) rfl (partC (2, 0)) rfl rfl (by decide) ?_; have hI2 := hI.alloc (.cells (partC (2, 0)).toArray 81); have hrd2 : Rd (wr.alloc (.cells (partC (2, 0)).toArray 81)) (wr.heap.size + 1) 2 (some ⟨wr.heap.size, 0, none⟩) 1 (partC (2, 0)) := Rd.lit (size := 2) wr (partC (2, 0)).toArray 81 1 rfl)
                  | (at_builtin; refine wl_app_at el_pr hI2 0 rfl (.tmp 74) (.tmp 76) rfl w.heap.size _ _ _ _ rfl rfl (wr.heap.size + 1) _ 1 1 (partC (2, 0)) rfl hrd2 (partC_one _) (by omega) (by have := (hI.at_ 1 rfl : _ ∧ w.heap.size ≤ wr.heap.size).2; simp; omega) (fun g hg _ => ⟨fun g' e => (by injection e with e; omega), trivial⟩) ?_; intro A7 c7 w7 hI7 hs7))
                simp only [List.set_cons_zero] at hI7
                refine ⟨⟨k + 1, A7, c7, out ++ [(2, 0)], by go_num, by rw [List.length_append]; rfl, by omega, by rw [List.length_append, List.length_singleton]; omega, Lib.hid (HP.out.step (2, 0) (by rw [drop1 B0.out, HB.out]; exact pat_s (fun r' e => HC.out (by rw [drop1 B1.out] at e; injection e)))), ?_⟩, by simp [intOf]; omega⟩
                rw [List.length_append, List.map_append, List.flatten_append]
                simpa using hI7
            · have v1 : decide (((k + 1 : Nat) : Int) < (s.size : Int)) = false := by simp; omega
              go_wp2_with (first
                | (refine wl_build rfl 81 [(0, .const (.int .i64 2)), (1, .const (.int .u8 0))] rfl _ _ #[(0, 1), (1, 1)] (partC (2, 0)).toArray zero_pr Tryd.underlying81 (fun w => by kernel_rfl) ?_ ?_; exact fill_part 2 0 .u8)
                | (refine wl_lit1 el_pr rfl (.tmp 75) rfl (partC (2, 0)) rfl rfl (by decide) ?_; have hI2 := hI.alloc (.cells (partC (2, 0)).toArray 81); have hrd2 : Rd (wr.alloc (.cells (partC (2, 0)).toArray 81)) (wr.heap.size + 1) 2 (some ⟨wr.heap.size, 0, none⟩) 1 (partC (2, 0)) := Rd.lit (size := 2) wr (partC (2, 0)).toArray 81 1 rfl)
                | (at_builtin; refine wl_app_at el_pr hI2 0 rfl (.tmp 74) (.tmp 76) rfl w.heap.size _ _ _ _ rfl rfl (wr.heap.size + 1) _ 1 1 (partC (2, 0)) rfl hrd2 (partC_one _) (by omega) (by have := (hI.at_ 1 rfl : _ ∧ w.heap.size ≤ wr.heap.size).2; simp; omega) (fun g hg _ => ⟨fun g' e => (by injection e with e; omega), trivial⟩) ?_; intro A7 c7 w7 hI7 hs7))
              simp only [List.set_cons_zero] at hI7
              refine ⟨⟨k + 1, A7, c7, out ++ [(2, 0)], by go_num, by rw [List.length_append]; rfl, by omega, by rw [List.length_append, List.length_singleton]; omega, Lib.hid (HP.out.step (2, 0) (by rw [drop1 B0.out, HB.out, List.drop_eq_nil_of_le (by rw [Array.length_toList]; show s.size ≤ _; omega)]; exact pat_s (fun r' e => by cases e))), ?_⟩, by simp [intOf]; omega⟩
              rw [List.length_append, List.map_append, List.flatten_append]
              simpa using hI7
          · have n42 : decide ((s[k].toNat : Int) = 42) = false := by simp; omega
            have m42 : decide (s[k].toNat = 42) = false := by simp; omega
            by_cases b63 : s[k].toNat = 63
            · have HB : Hid (s[k] = 63) := Lib.hid (of_nat b63)
              go_wp2_with (first
                | (refine wl_build rfl 81 [(0, .const (.int .i64 1)), (1, .const (.int .u8 0))] rfl _ _ #[(0, 1), (1, 1)] (partC (1, 0)).toArray zero_pr Tryd.underlying81 (fun w => by kernel_rfl) ?_ ?_; exact fill_part 1 0 .u8)
                | (refine wl_lit1 el_pr rfl (.tmp 81) rfl (partC (1, 0)) rfl rfl (by decide) ?_; have hI2 := hI.alloc (.cells (partC (1, 0)).toArray 81); have hrd2 : Rd (wr.alloc (.cells (partC (1, 0)).toArray 81)) (wr.heap.size + 1) 2 (some ⟨wr.heap.size, 0, none⟩) 1 (partC (1, 0)) := Rd.lit (size := 2) wr (partC (1, 0)).toArray 81 1 rfl)
                | (at_builtin; refine wl_app_at el_pr hI2 0 rfl (.tmp 80) (.tmp 82) rfl w.heap.size _ _ _ _ rfl rfl (wr.heap.size + 1) _ 1 1 (partC (1, 0)) rfl hrd2 (partC_one _) (by omega) (by have := (hI.at_ 1 rfl : _ ∧ w.heap.size ≤ wr.heap.size).2; simp; omega) (fun g hg _ => ⟨fun g' e => (by injection e with e; omega), trivial⟩) ?_; intro A7 c7 w7 hI7 hs7))
              simp only [List.set_cons_zero] at hI7
              refine ⟨⟨k + 1, A7, c7, out ++ [(1, 0)], by go_num, by rw [List.length_append]; rfl, by omega, by rw [List.length_append, List.length_singleton]; omega, Lib.hid (HP.out.step (1, 0) (by rw [drop1 B0.out, HB.out]; exact pat_q _)), ?_⟩, by simp [intOf]; omega⟩
              rw [List.length_append, List.map_append, List.flatten_append]
              simpa using hI7
            · have n63 : decide ((s[k].toNat : Int) = 63) = false := by simp; omega
              have m63 : decide (s[k].toNat = 63) = false := by simp; omega
              have HB : Hid (s[k] ≠ 92 ∧ s[k] ≠ 63 ∧ s[k] ≠ 42) := Lib.hid ⟨fun e => b92 (by rw [e]; rfl), fun e => b63 (by rw [e]; rfl), fun e => b42 (by rw [e]; rfl)⟩
              have HC0 : Hid (s[k] ≠ 0) := Lib.hid (fun e => b0 (by rw [e]; rfl))
              go_wp2_with (first
                | (refine wl_build rfl 81 [(0, .const (.int .i64 0)), (1, .tmp 27)] rfl _ _ #[(0, 1), (1, 1)] (partC (0, s[k])).toArray zero_pr Tryd.underlying81 (fun w => by kernel_rfl) ?_ ?_; exact fill_part 0 _ .u8)
                | (refine wl_lit1 el_pr rfl (.tmp 28) rfl (partC (0, s[k])) rfl rfl (by decide) ?_; have hI2 := hI.alloc (.cells (partC (0, s[k])).toArray 81); have hrd2 : Rd (wr.alloc (.cells (partC (0, s[k])).toArray 81)) (wr.heap.size + 1) 2 (some ⟨wr.heap.size, 0, none⟩) 1 (partC (0, s[k])) := Rd.lit (size := 2) wr (partC (0, s[k])).toArray 81 1 rfl)
                | (at_builtin; refine wl_app_at el_pr hI2 0 rfl (.tmp 26) (.tmp 29) rfl w.heap.size _ _ _ _ rfl rfl (wr.heap.size + 1) _ 1 1 (partC (0, s[k])) rfl hrd2 (partC_one _) (by omega) (by have := (hI.at_ 1 rfl : _ ∧ w.heap.size ≤ wr.heap.size).2; simp; omega) (fun g hg _ => ⟨fun g' e => (by injection e with e; omega), trivial⟩) ?_; intro A7 c7 w7 hI7 hs7))
              simp only [List.set_cons_zero] at hI7
              refine ⟨⟨k + 1, A7, c7, out ++ [(0, s[k])], by go_num, by rw [List.length_append]; rfl, by omega, by rw [List.length_append, List.length_singleton]; omega, Lib.hid (HP.out.step (0, s[k]) (by rw [drop1 B0.out]; exact pat_lit _ HC0.out HB.out.1 HB.out.2.1 HB.out.2.2)), ?_⟩, by simp [intOf]; omega⟩
              rw [List.length_append, List.map_append, List.flatten_append]
              simpa using hI7
    · have d0 : decide ((k : Int) < (s.size : Int)) = false := by simp; omega
      have HF : Hid (patS s = some out) := Lib.hid (by rw [HS.out]; exact HP.out.done (by rw [Array.length_toList]; show s.size ≤ k; omega))
      go_wp2_with fail
      go_ret2
      rw [HF.out]
      exact ⟨A', c', rfl, hI.at_ 0 rfl, (hI.at_ 1 rfl : _ ∧ _).1⟩
end Go.Proofs.YtipepcjiogifaaaDoor

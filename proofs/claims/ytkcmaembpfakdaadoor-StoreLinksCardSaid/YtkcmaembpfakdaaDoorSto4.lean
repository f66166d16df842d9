/- Get on both sides. -/
import Derived.Test.YtkcmaembpfakdaaDoorSto3
import Derived.Lib.SliceRun
set_option linter.unusedSimpArgs false
set_option linter.unusedVariables false
set_option maxRecDepth 100000
namespace Go.Proofs.YtkcmaembpfakdaaDoor
open Go Go.RowKit Go.Adm

theorem el_b8 : ElemOf Tryd.prog 22 5 (.int .u8 0) 1 1 := ElemOf.mk' Tryd.underlying22 (by kernel_rfl) rfl (by decide) (by decide)

set_option maxHeartbeats 800000 in
theorem Clone_any (w : World) (B : Nat) (A : Option Addr) (n c : Nat) (b : List UInt8) (h : Rd w B 1 A n (b.map bv)) (hB : B ≤ w.heap.size) (hn : n ≤ 140737488355000) (hnc : n ≤ c) (hc : c ≤ maxLen) :
    Calls Tryd.prog 25 #[.slice A n c] w fun e w' => ∃ A' c', e = .returned (.slice A' n c') ∧ Below w.heap.size w w' ∧ Rd w' w'.heap.size 1 A' n (b.map bv) := by
  have hbl : b.length = n := by have := h.len; simpa using this
  have q23 : ∀ (w : World) (a : Option Addr) (n c n' c' : Nat), (binOp .eql 22 (.slice a n c) (.slice none n' c')).run Tryd.prog w = .ok (.bool a.isNone) w := fun w a n c n' c' => Lib.run_eql_slice_nil w _ _ a n c n' c' Tryd.underlying22
  cases A with
  | none =>
    have hn0 : n = 0 := by
      rcases Nat.eq_zero_or_pos n with h0 | h0
      · exact h0
      · obtain ⟨ad, e, _⟩ := h.at_ h0; cases e
    subst hn0
    have hb : b = [] := List.eq_nil_of_length_eq_zero hbl
    subst hb
    go_enter Tryd.func25, Tryd.ntmps25
    go_wp2_with fail
    go_ret
    exact ⟨none, 0, rfl, Below.refl _ _, Rd.nil⟩
  | some ad =>
    have hown0 : Go.Adm.Own (w.alloc (.cells #[] 5)) w.heap.size 5 1 (some ⟨w.heap.size, 0, none⟩) 0 0 [] := Go.Adm.Own.lit w #[] 0 (Nat.le_refl _) (by decide) rfl
    have hrx : Rd (w.alloc (.cells #[] 5)) B 1 (some ad) n (b.map bv) := h.alloc hB _
    clear h hbl
    go_enter Tryd.func25, Tryd.ntmps25
    go_wp2_with (at_builtin; refine wl_app _ el_b8 rfl (.tmp 5) (.tmp 6) rfl w.heap.size _ 0 0 [] rfl hown0 B _ n c (b.map bv) rfl hrx (bv_one _) (by omega) (by simp) ?_; intro A3 c3 w3 hown3 hb3 hg3)
    go_ret
    have hown4 := hown3.cast (Nat.zero_add n) (List.nil_append _)
    exact ⟨A3, c3, rfl, ((Below.refl _ w).alloc (Nat.le_refl _) _).trans hb3, hown4.rd⟩

def dataB (o : Option Bl) : List UInt8 := match o with
  | none => []
  | some x => x.b
theorem lookB_mem {l : List Bl} {d : List UInt8} {x : Bl} (h : lookB l d = some x) : x ∈ l := List.mem_of_find?_eq_some h

set_option maxHeartbeats 1600000 in
theorem Get_any (w : World) (B : Nat) (A : Option Addr) (n c : Nat) (l : List Bl) (d : List UInt8) (hl : Blobs w B A n l) (hd : d.length = 32) (hn2 : n ≤ 1000000) (hB : B ≤ w.heap.size) (hbig : ∀ x ∈ l, x.n ≤ 140737488355000) :
    Calls Tryd.prog 11 #[.slice A n c, .agg (d.map bv).toArray] w fun e w' => ∃ A' n' c', e = .returned (.tuple #[.slice A' n' c', .bool (lookB l d).isSome]) ∧ Below w.heap.size w w' ∧ Rd w' w'.heap.size 1 A' n' ((dataB (lookB l d)).map bv) := by
  have hR : All w [.low (.blobs B A n l), .kept w w.heap.size] := ⟨⟨hl, hB⟩, ⟨Below.refl _ _, Nat.le_refl _⟩, trivial⟩
  have HD := Lib.hid hd
  clear hl hd
  go_enter Tryd.func11, Tryd.ntmps11
  go_upto_region 1 with (fail)
  refine wp_gen (hR.new (l := d.map bv) _ 36 rfl rfl) ?_
  intro W1 hW1
  clear hR
  have hgt := get_any W1 B A n c l d (hW1.at_ 1 rfl : Blobs W1 B A n l ∧ _).1 HD.out hn2 (hW1.at_ 1 rfl : _ ∧ B ≤ W1.heap.size).2
  go_wp2_with (refine wl_load_any rfl 36 (.tmp 3) rfl ⟨w.heap.size, 0, none⟩ rfl (d.map bv) _ (Cells.sub (hW1.at_ 0 rfl) 0 (fun j u h => by rwa [Nat.zero_add])) Tryd.underlying36 rfl (by rw [List.length_map, HD.out]; kernel_rfl) ?_)
  refine hgt.mono ?_
  clear hgt
  rintro e w2 ⟨rfl, hb2⟩
  have hW2 := hW1.call hb2
  clear hW1 hb2
  cases hk : lookB l d with
  | none =>
    have HK := Lib.hid hk
    have hcl := Clone_any w2 0 none 0 0 [] Rd.nil (Nat.zero_le _) (by omega) (Nat.le_refl _) (Nat.zero_le _)
    clear hk
    unfold got
    go_wp2_with fail
    refine hcl.mono ?_
    clear hcl
    rintro e w3 ⟨A3, c3, rfl, hb3, hr3⟩
    have hW3 := hW2.call hb3
    go_wp2_with fail
    go_ret2
    exact ⟨A3, 0, c3, by rw [HK.out]; rfl, (hW3.at_ 2 rfl : _ ∧ _).1, by rw [HK.out]; exact hr3⟩
  | some x =>
    have HK := Lib.hid hk
    have hm := lookB_mem hk
    have hx := (hW2.at_ 1 rfl : Blobs w2 B A n l ∧ B ≤ w2.heap.size).1.each x hm
    have hcl := Clone_any w2 B x.A x.n x.c x.b hx.rd (hW2.at_ 1 rfl : _ ∧ B ≤ w2.heap.size).2 (hbig x hm) hx.nc hx.cm
    clear hk hm hx
    unfold got
    go_wp2_with fail
    refine hcl.mono ?_
    clear hcl
    rintro e w3 ⟨A3, c3, rfl, hb3, hr3⟩
    have hW3 := hW2.call hb3
    go_wp2_with fail
    go_ret2
    exact ⟨A3, x.n, c3, by rw [HK.out]; rfl, (hW3.at_ 2 rfl : _ ∧ _).1, by rw [HK.out]; exact hr3⟩
end Go.Proofs.YtkcmaembpfakdaaDoor

/- Get on both sides. -/
import Derived.Test.YtahfhlpolhibdaaSto3
import Derived.Lib.SliceRun
set_option linter.unusedSimpArgs false
set_option linter.unusedVariables false
set_option maxRecDepth 100000
namespace Go.Proofs.Ytahfhlpolhibdaa
open Go Go.RowKit Go.Adm

theorem el_b8 : ElemOf Try.prog 23 5 (.int .u8 0) 1 1 := ElemOf.mk' Try.underlying23 (by kernel_rfl) rfl (by decide) (by decide)

set_option maxHeartbeats 3200000 in
theorem refGet_any (w : World) (B : Nat) (A : Option Addr) (n c : Nat) (l : List Bl) (d : List UInt8) (hl : Blobs w B A n l) (hd : d.length = 32) (hn2 : n ≤ 1000000) (hB : B ≤ w.heap.size) :
    Calls Try.prog 12 #[.slice A n c, .agg (d.map bv).toArray] w fun e w' => e = .returned (got (lookB l d)) ∧ Below w.heap.size w w' := by
  have hR : All w [.low (.blobs B A n l), .kept w w.heap.size] := ⟨⟨hl, hB⟩, ⟨Below.refl _ _, Nat.le_refl _⟩, trivial⟩
  have HN := Lib.hid hl.len
  have HD := Lib.hid hd
  have hzr := zero_bl
  clear hl hd
  go_enter Try.func12, Try.ntmps12
  go_upto_region 1 with (fail)
  refine wp_gen (hR.new (l := d.map bv) _ 31 rfl rfl) ?_
  intro W1 hW1
  clear hR
  go_wp2
  go_loopw [6] (fun i wr => ∃ k : Nat, k ≤ n ∧ i = .int .i64 k ∧ Hid (∀ j (hj : j < l.length), j < k → l[j].d ≠ d) ∧ All wr [.cells w.heap.size 31 (d.map bv), .low (.blobs B A n l), .kept w w.heap.size]) (fun i _ => n - (intOf i).toNat)
  case atStart => exact ⟨0, by omega, rfl, Lib.hid (fun j hj h => absurd h (by omega)), hW1⟩
  case round =>
    clear hW1
    obtain ⟨k, hk, rfl, HA, hI⟩ := hrel
    by_cases hlt : k < n
    · have hkl : k < l.length := by rw [HN.out]; exact hlt
      have hbl := (hI.at_ 1 rfl : Blobs wr B A n l ∧ B ≤ wr.heap.size)
      obtain ⟨ad, rfl, hadB, hc⟩ := Els.elem hbl.1.els hkl
      have HX : Hid (∀ W, All W [.cells w.heap.size 31 (d.map bv), .low (.blobs B (some ad) n l), .kept w w.heap.size] → ∀ q s, (blC l[k])[q]? = some s → W.cell? ((ad.add (k * 33)).add q) = some s) := Lib.hid (fun W hW => by
        obtain ⟨ad', e, _, hc⟩ := Els.elem (hW.at_ 1 rfl : Blobs W B (some ad) n l ∧ B ≤ W.heap.size).1.els hkl
        obtain rfl := Option.some.inj e
        exact hc)
      have hx := Lib.hid (hbl.1.each _ (List.getElem_mem hkl)).d32
      have HHIT : Hid (l[k].d = d → lookB l d = some l[k]) := Lib.hid (fun h => lookB_hit hkl HA.out h)
      have HMISS : Hid (l[k].d ≠ d → ∀ j (hj : j < l.length), j < k + 1 → l[j].d ≠ d) := Lib.hid (fun h j hj hjk => by
        rcases Nat.lt_or_eq_of_le (Nat.le_of_lt_succ hjk) with h1 | h1
        · exact HA.out j hj h1
        · subst h1; exact h)
      clear hc hbl
      generalize l[k] = x at *
      have d1 : decide ((k : Int) < (n : Int)) = true := by simp; omega
      have wk0 : (0 : Int) ≤ (k : Int) := by omega
      have wk1 : (k : Int) < (n : Int) := by omega
      have wk2 : ((k : Int)).toNat = k := by omega
      go_upto_region 4 with (fail)
      refine wp_region_hops 6 [13, 14, 15, 16, 17, 18] [.cells w.heap.size 31 (d.map bv), .low (.blobs B (some ad) n l), .kept w w.heap.size]
        [.eq (.slice (some ad) n c), .eq (.int .i64 k), .eq (.pointer (some (ad.add (k * 33)))), .eq (.pointer (some (ad.add (k * 33)))), .eq (.agg (x.d.map bv).toArray), .eq (.agg (d.map bv).toArray)]
        (by kernel_rfl) (by kernel_rfl) hI rfl ?hops ?fin
      case hops =>
        refine ⟨?_, ?_, ?_, ?_, ?_, ?_, trivial⟩
        · intro a W hW hb hd K hK
          have b0 := hb 0 rfl
          go_simp
          exact hK _ _ (World.grownBy.refl _ _) rfl
        · intro a W hW hb hd K hK
          have b6 := hb 6 rfl
          go_simp
          exact hK _ _ (World.grownBy.refl _ _) rfl
        · intro a W hW hb hd K hK
          have b13 : a.tmps[13]?.getD undef = _ := hd ⟨0, .data⟩ (by simp) rfl
          have b14 : a.tmps[14]?.getD undef = _ := hd ⟨1, .data⟩ (by simp) rfl
          go_simp
          exact hK _ _ (World.grownBy.refl _ _) rfl
        · intro a W hW hb hd K hK
          have b15 : a.tmps[15]?.getD undef = _ := hd ⟨2, .data⟩ (by simp) rfl
          go_simp
          exact hK _ _ (World.grownBy.refl _ _) (by first | rfl | (rw [add_zero]; rfl) | (simp [add_zero]; rfl))
        · intro a W hW hb hd K hK
          have b16 : a.tmps[16]?.getD undef = _ := hd ⟨3, .data⟩ (by simp) rfl
          refine wp_load_any 31 (.tmp 16) rfl (ad.add (k * 33)) (show a.eval (.tmp 16) = _ from by simp only [Act.eval, Array.getD_eq_getD_getElem?]; exact b16) (x.d.map bv) _ (fun q s hs => HX.out W hW q s (by have := bl_sub0 x q s hs; rwa [Nat.zero_add] at this)) Try.underlying31 rfl (by rw [List.length_map, hx.out]; kernel_rfl) ?_
          exact hK _ _ (World.grownBy.refl _ _) rfl
        · intro a W hW hb hd K hK
          have b3 := hb 3 rfl
          refine wp_load_any 31 (.tmp 3) rfl ⟨w.heap.size, 0, none⟩ (show a.eval (.tmp 3) = _ from by simp only [Act.eval, Array.getD_eq_getD_getElem?]; exact b3) (d.map bv) _ (Cells.sub (hW.at_ 0 rfl) 0 (fun j u h => by rwa [Nat.zero_add])) Try.underlying31 rfl (by rw [List.length_map, HD.out]; kernel_rfl) ?_
          exact hK _ _ (World.grownBy.refl _ _) rfl
      case fin =>
        intro vs V hV hv
        have e4 : vs 4 = _ := hv 4 (by decide)
        have e5 : vs 5 = _ := hv 5 (by decide)
        clear hv hI
        simp only [putAll, List.drop_succ_cons, List.drop_zero, e4, e5, Act.put, List.setIfInBounds_toArray, List.set_cons_succ, List.set_cons_zero]
        clear e4 e5
        have heq := eq_dg
        cases hz : decide (x.d = d) with
        | true =>
          have HF := Lib.hid (HHIT.out (of_decide_eq_true hz))
          have q1 : ∀ W : World, (binOp .eql 31 (.agg (x.d.map bv).toArray) (.agg (d.map bv).toArray)).run Try.prog W = .ok (.bool true) W := fun W => by have := heq W x.d d hx.out HD.out; rwa [hz] at this
          have hlast : V.cell? ⟨(ad.add (k * 33)).block, (ad.add (k * 33)).off + 32, none⟩ = some (.slice x.A x.n x.c) := HX.out V hV 32 _ (bl_last hx.out)
          have hlast' : V.cell? ((ad.add (k * 33)).add 32) = some (.slice x.A x.n x.c) := hlast
          clear hz heq HHIT HMISS
          go_wp2_with fail
          go_ret2
          rw [HF.out]
          exact ⟨rfl, (hV.at_ 2 rfl : _ ∧ _).1⟩
        | false =>
          have HF := Lib.hid (HMISS.out (of_decide_eq_false hz))
          have q1 : ∀ W : World, (binOp .eql 31 (.agg (x.d.map bv).toArray) (.agg (d.map bv).toArray)).run Try.prog W = .ok (.bool false) W := fun W => by have := heq W x.d d hx.out HD.out; rwa [hz] at this
          clear hz heq HHIT HMISS
          go_wp2_with fail
          exact ⟨⟨k + 1, by omega, by go_num, HF, hV⟩, by simp [intOf]; omega⟩
    · have d1 : decide ((k : Int) < (n : Int)) = false := by simp; omega
      have HF : Hid (lookB l d = none) := Lib.hid (lookB_miss fun j hj => HA.out j hj (by have := HN.out; omega))
      go_wp2_with fail
      go_ret2
      rw [HF.out]
      exact ⟨rfl, (hI.at_ 2 rfl : _ ∧ _).1⟩

set_option maxHeartbeats 800000 in
theorem Clone_any (w : World) (B : Nat) (A : Option Addr) (n c : Nat) (b : List UInt8) (h : Rd w B 1 A n (b.map bv)) (hB : B ≤ w.heap.size) (hn : n ≤ 140737488355000) (hnc : n ≤ c) (hc : c ≤ maxLen) :
    Calls Try.prog 36 #[.slice A n c] w fun e w' => ∃ A' c', e = .returned (.slice A' n c') ∧ Below w.heap.size w w' ∧ Rd w' w'.heap.size 1 A' n (b.map bv) := by
  have hbl : b.length = n := by have := h.len; simpa using this
  have q23 : ∀ (w : World) (a : Option Addr) (n c n' c' : Nat), (binOp .eql 23 (.slice a n c) (.slice none n' c')).run Try.prog w = .ok (.bool a.isNone) w := fun w a n c n' c' => Lib.run_eql_slice_nil w _ _ a n c n' c' Try.underlying23
  cases A with
  | none =>
    have hn0 : n = 0 := by
      rcases Nat.eq_zero_or_pos n with h0 | h0
      · exact h0
      · obtain ⟨ad, e, _⟩ := h.at_ h0; cases e
    subst hn0
    have hb : b = [] := List.eq_nil_of_length_eq_zero hbl
    subst hb
    go_enter Try.func36, Try.ntmps36
    go_wp2_with fail
    go_ret
    exact ⟨none, 0, rfl, Below.refl _ _, Rd.nil⟩
  | some ad =>
    have hown0 : Go.Adm.Own (w.alloc (.cells #[] 5)) w.heap.size 5 1 (some ⟨w.heap.size, 0, none⟩) 0 0 [] := Go.Adm.Own.lit w #[] 0 (Nat.le_refl _) (by decide) rfl
    have hrx : Rd (w.alloc (.cells #[] 5)) B 1 (some ad) n (b.map bv) := h.alloc hB _
    clear h hbl
    go_enter Try.func36, Try.ntmps36
    go_wp2_with (at_builtin; refine wl_app _ el_b8 rfl (.tmp 5) (.tmp 6) rfl w.heap.size _ 0 0 [] rfl hown0 B _ n c (b.map bv) rfl hrx (bv_one _) (by omega) (by simp) ?_; intro A3 c3 w3 hown3 hb3 hg3)
    go_ret
    have hown4 := hown3.cast (Nat.zero_add n) (List.nil_append _)
    exact ⟨A3, c3, rfl, ((Below.refl _ w).alloc (Nat.le_refl _) _).trans hb3, hown4.rd⟩

def dataB (o : Option Bl) : List UInt8 := match o with
  | none => []
  | some x => x.b
theorem lookB_mem {l : List Bl} {d : List UInt8} {x : Bl} (h : lookB l d = some x) : x ∈ l := List.mem_of_find?_eq_some h

set_option maxHeartbeats 1600000 in
theorem Get_any (w : World) (B : Nat) (A : Option Addr) (n c : Nat) (l : List Bl) (d : List UInt8) (hl : Blobs w B A n l) (hd : d.length = 32) (hn2 : n ≤ 1000000) (hB : B ≤ w.heap.size) (hbig : ∀ x ∈ l, x.n ≤ 140737488355000) :
    Calls Try.prog 11 #[.slice A n c, .agg (d.map bv).toArray] w fun e w' => ∃ A' n' c', e = .returned (.tuple #[.slice A' n' c', .bool (lookB l d).isSome]) ∧ Below w.heap.size w w' ∧ Rd w' w'.heap.size 1 A' n' ((dataB (lookB l d)).map bv) := by
  have hR : All w [.low (.blobs B A n l), .kept w w.heap.size] := ⟨⟨hl, hB⟩, ⟨Below.refl _ _, Nat.le_refl _⟩, trivial⟩
  have HD := Lib.hid hd
  clear hl hd
  go_enter Try.func11, Try.ntmps11
  go_upto_region 1 with (fail)
  refine wp_gen (hR.new (l := d.map bv) _ 31 rfl rfl) ?_
  intro W1 hW1
  clear hR
  have hgt := get_any W1 B A n c l d (hW1.at_ 1 rfl : Blobs W1 B A n l ∧ _).1 HD.out hn2 (hW1.at_ 1 rfl : _ ∧ B ≤ W1.heap.size).2
  go_wp2_with (refine wl_load_any rfl 31 (.tmp 3) rfl ⟨w.heap.size, 0, none⟩ rfl (d.map bv) _ (Cells.sub (hW1.at_ 0 rfl) 0 (fun j u h => by rwa [Nat.zero_add])) Try.underlying31 rfl (by rw [List.length_map, HD.out]; kernel_rfl) ?_)
  refine hgt.mono ?_
  clear hgt
  rintro e w2 ⟨rfl, hb2⟩
  have hW2 := hW1.call hb2
  clear hW1 hb2
  cases hk : lookB l d with
  | none =>
    have HK := Lib.hid hk
    have hcl := Clone_any w2 0 none 0 0 [] Rd.nil (Nat.zero_le _) (by omega) (Nat.le_refl _) (Nat.zero_le _)
    clear hk
    unfold got
    go_wp2_with fail
    refine hcl.mono ?_
    clear hcl
    rintro e w3 ⟨A3, c3, rfl, hb3, hr3⟩
    have hW3 := hW2.call hb3
    go_wp2_with fail
    go_ret2
    exact ⟨A3, 0, c3, by rw [HK.out]; rfl, (hW3.at_ 2 rfl : _ ∧ _).1, by rw [HK.out]; exact hr3⟩
  | some x =>
    have HK := Lib.hid hk
    have hm := lookB_mem hk
    have hx := (hW2.at_ 1 rfl : Blobs w2 B A n l ∧ B ≤ w2.heap.size).1.each x hm
    have hcl := Clone_any w2 B x.A x.n x.c x.b hx.rd (hW2.at_ 1 rfl : _ ∧ B ≤ w2.heap.size).2 (hbig x hm) hx.nc hx.cm
    clear hk hm hx
    unfold got
    go_wp2_with fail
    refine hcl.mono ?_
    clear hcl
    rintro e w3 ⟨A3, c3, rfl, hb3, hr3⟩
    have hW3 := hW2.call hb3
    go_wp2_with fail
    go_ret2
    exact ⟨A3, x.n, c3, by rw [HK.out]; rfl, (hW3.at_ 2 rfl : _ ∧ _).1, by rw [HK.out]; exact hr3⟩
end Go.Proofs.Ytahfhlpolhibdaa

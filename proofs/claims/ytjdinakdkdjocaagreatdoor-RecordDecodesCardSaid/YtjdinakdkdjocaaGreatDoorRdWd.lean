/- The law RecordDecodes. -/
import Derived.Test.YtjdinakdkdjocaaGreatDoorRdZ
import Derived.Test.YtjdinakdkdjocaaGreatDoorRdSB
import Derived.Test.YtjdinakdkdjocaaGreatDoorRdM
import Derived.Test.YtjdinakdkdjocaaGreatDoorRdC
import Derived.Test.YtjdinakdkdjocaaGreatDoorRecA
import Derived.Test.YtjdinakdkdjocaaGreatDoorRec3
set_option linter.unusedSimpArgs false
set_option linter.unusedVariables false
set_option maxRecDepth 100000
namespace Go.Proofs.YtjdinakdkdjocaaGreatDoor
open Go Go.RowKit Go.Adm Go.AdR
theorem fill_tapeD (v : Value) (hv : v.oneCell' = true) : Instr.fill (#[(0, 1), (1, 1)][·]?) #[Value.slice none 0 0, Value.int .i64 0] [(0, v)] = some #[v, .int .i64 0] := by
  have h1 : v.cells = [v].toArray := by cases v <;> first | rfl | cases hv
  refine (fill_step (off := 0) (size := 1) (es := [v]) (pre := []) (old := [.slice none 0 0]) (post := [.int .i64 0]) rfl rfl rfl rfl h1 rfl).trans ?_
  rfl
theorem zero_tapeD (w : World) : (zeroValue 35).run Tryz.prog w = .ok (.agg #[Value.slice none 0 0, Value.int .i64 0]) w := by kernel_rfl
theorem RecOwn.inD {ts tv te : TypeId} {w : World} {base : Nat} {x : Rec} {sc se sm sp : Sl} (h : RecOwn ts tv te w base x sc se sm sp) (ok : RecOk x) (hc : ∀ s ∈ x.cmd, s.size ≤ 140737488355328) : RecIn w w.heap.size x sc se sm sp := by
  have l1 : x.cmd.length = sc.n := by have := h.cmd.1; simpa using this
  have hm : ∀ l : List E, (∀ e ∈ l, E32 e) → ∀ e ∈ l.map entC, e.length = 33 := fun l hl e he => by
    obtain ⟨y, hy, rfl⟩ := List.mem_map.1 he
    exact entC_len (hl y hy)
  have l2 : x.env.length = se.n := by have := h.env.1; rw [flat_len (size := 2) (fun e he => by obtain ⟨y, _, rfl⟩ := List.mem_map.1 he; rfl)] at this; simp at this; omega
  have l3 : x.mat.length = sm.n := by have := h.mat.1; rw [flat_len (size := 33) (hm _ ok.mat)] at this; simp at this; omega
  have l4 : x.prod.length = sp.n := by have := h.prod.1; rw [flat_len (size := 33) (hm _ ok.prod)] at this; simp at this; omega
  exact ⟨⟨h.cmd.rd, hc⟩, Els.of h.env (fun e he => by obtain ⟨y, _, rfl⟩ := List.mem_map.1 he; rfl) (by rw [List.length_map]; exact l2), Els.of h.mat (hm _ ok.mat) (by rw [List.length_map]; exact l3), Els.of h.prod (hm _ ok.prod) (by rw [List.length_map]; exact l4)⟩
theorem tm_k {x m : Int} (hm : 0 < m) : 0 < x.tmod m + m ∧ x.tmod m + m < 2 * m ∧ (x.tmod m + m).tmod m = (x.tmod m + m) % m ∧ 0 ≤ (x.tmod m + m) % m ∧ (x.tmod m + m) % m < m := by
  have h1 := Int.lt_tmod_of_pos x hm
  have h2 := Int.tmod_lt_of_pos x hm
  exact ⟨by omega, by omega, Int.tmod_eq_emod_of_nonneg (by omega), Int.emod_nonneg _ (by omega), Int.emod_lt_of_pos _ hm⟩
set_option maxHeartbeats 12800000 in
theorem walkRecD (m : Int) (w : World) (B : Nat) (A : Option Addr) (n c : Nat) (b : List UInt8) (hb : Rd w B 1 A n (b.map bv)) (hnc : n ≤ c) (hcm : c ≤ maxLen) (At : Option Addr) (nt ct : Nat) (L : List Int) (hL : Rd w B 1 At nt (L.map iv)) (at_ : Int) (hat0 : -9223372036854775808 ≤ at_) (hat1 : at_ ≤ 9223372036854775807) (hB : B ≤ w.heap.size) (hm : w.cell? ⟨0, 0, none⟩ = some (.int .i64 m)) (ht : Lib.TabIs Tryz.prog w "internal/strconv.uint64pow10" .u64 Lib.pow10Tab) :
    Calls Tryz.prog 3 #[.slice A n c, .slice At nt ct, .int .i64 at_] w fun e w' => e = .returned (.bool true) ∧ Below w.heap.size w w' := by
  have hgm : 0 < w.heap.size := World.block_lt_of_cell? w _ hm
  have hR : All w [.low (.rd B 1 A n (b.map bv)), .kept w w.heap.size] := ⟨⟨hb, hB⟩, ⟨Below.refl _ _, Nat.le_refl _⟩, trivial⟩
  have HM : Hid (∀ W, Below w.heap.size w W → W.cell? ⟨0, 0, none⟩ = some (.int .i64 m)) := Lib.hid (fun W hb => (hb.cell hgm).trans hm)
  have HT : Hid (∀ W, Below w.heap.size w W → Lib.TabIs Tryz.prog W "internal/strconv.uint64pow10" .u64 Lib.pow10Tab) := Lib.hid (fun W hb => tab_keep ht hb)
  have HGM := Lib.hid hgm
  have HL : Hid (∀ W, Below w.heap.size w W → Rd W B 1 At nt (L.map iv)) := Lib.hid (fun W hb => hL.below hb hB)
  have HNC := Lib.hid hnc
  have HCM := Lib.hid hcm
  have HBB := Lib.hid hB
  clear hb hL hm ht hgm hnc hcm
  by_cases hn : 100000 < n
  · have d1 : decide ((100000 : Int) < (n : Int)) = true := by simp; omega
    go_enter Tryz.func3, Tryz.ntmps3
    go_wp2_with fail
    go_ret
    exact ⟨rfl, Below.refl _ _⟩
  · have d1 : decide ((100000 : Int) < (n : Int)) = false := by simp; omega
    go_enter Tryz.func3, Tryz.ntmps3
    go_upto_region 3 with (fail)
    have hW1 := hR.new (l := [.slice At nt ct, .int .i64 ((0 : Nat) : Int)]) #[.slice At nt ct, .int .i64 0] 35 rfl rfl
    have hbw1 := (hW1.at_ 2 rfl : _ ∧ _).1
    have hmade := made_any _ w.heap.size B At nt ct 0 L (hW1.at_ 0 rfl) (HL.out _ hbw1) hB (by decide)
    go_upto_region 4 with (first
      | (refine wl_build rfl 35 [(0, .tmp 21)] rfl _ _ #[(0, 1), (1, 1)] #[.slice At nt ct, .int .i64 0] zero_tapeD Tryz.underlying35 (fun w => by kernel_rfl) ?_ ?_; exact fill_tapeD _ rfl)
      | (go_at_call 6; refine hmade.mono ?_; clear hmade; rintro e w2 ⟨x1, sc1, se1, sm1, sp1, m1, rfl, hown1, hok1, hm1, hc2, hg2⟩; have hW2 := (All.upd hg2 0 (tapeC w.heap.size At nt ct (0 + m1)) hW1 hc2 ⟨fun g e => (by injection e with e; subst e; exact hB), fun g e => (by injection e with e; subst e; exact Nat.le_refl _), trivial⟩).2; have hgood := RecOwn.inD hown1 hok1.ok hok1.cmd; have hshape := hok1.shape; have hE := rrEncode_any w2 w2.heap.size x1 sc1 se1 sm1 sp1 hgood hok1.ok (Nat.le_refl _) hok1.lo hok1.hi m (HM.out w2 (hW2.at_ 1 rfl : _ ∧ _).1); clear hown1 hgood hok1 hW1 hbw1 hc2 hg2)
      | (go_at_call 5; refine hE.mono ?_; clear hE; intro e w3 hE3; obtain ⟨A3, n3, c3, rfl, hb3, hO3⟩ := RecPost.full hE3 (made_rec hshape) (made_doc hshape); clear hE3))
    have hpos := @made_pos x1
    have hsz3 := made_short hshape
    have hI3 := hW2.call hb3
    obtain ⟨xs, hxs⟩ : ∃ l, l = encD (recLs x1) := ⟨_, rfl⟩
    rw [← hxs] at hpos hO3 hsz3
    have hxl : xs.length = n3 := by have := hO3.1; simpa using this
    have hcap3 := hO3.cap
    have hrd3 := hO3.rd
    have hkw3 : w.heap.size ≤ w3.heap.size := (hI3.at_ 1 rfl : _ ∧ _).2
    clear hxs hshape hW2 hb3 hO3 hm1
    obtain ⟨ad3, rfl, -⟩ := hrd3.at_ (by omega)
    obtain ⟨s3, hs3⟩ : ∃ s, s = w3.heap.size := ⟨_, rfl⟩
    have hJ : All w3 [.low (.rd s3 1 (some ad3) n3 (xs.map bv)), .low (.rd B 1 A n (b.map bv)), .kept w w.heap.size] := ⟨⟨by rw [hs3]; exact hrd3, by rw [hs3]; exact Nat.le_refl _⟩, hI3⟩
    rw [← hs3] at hkw3
    clear hs3 hI3 hrd3
    obtain ⟨t1, t2, t3, t4, t5⟩ := @tm_k at_ (n3 : Int) (by omega)
    obtain ⟨k, hk⟩ : ∃ k : Nat, (at_.tmod (n3 : Int) + (n3 : Int)) % (n3 : Int) = (k : Int) := ⟨((at_.tmod (n3 : Int) + (n3 : Int)) % (n3 : Int)).toNat, (Int.toNat_of_nonneg t4).symm⟩
    have hkn : k < n3 := by rw [hk] at t5; omega
    have hcl : c3 ≤ 9223372036854775807 := hcap3.2
    have e1 : IntKind.i64.wrap (at_.tmod (n3 : Int)) = at_.tmod (n3 : Int) := IntWalk.i64_in _ (by have := Int.lt_tmod_of_pos at_ (show (0 : Int) < n3 from by omega); have := Int.tmod_lt_of_pos at_ (show (0 : Int) < n3 from by omega); omega)
    have hn3 : n3 ≤ 4611686018427387903 := by have := hsz3; omega
    have e2 : IntKind.i64.wrap (at_.tmod (n3 : Int) + (n3 : Int)) = at_.tmod (n3 : Int) + (n3 : Int) := IntWalk.i64_in _ (by omega)
    have e3 : (at_.tmod (n3 : Int) + (n3 : Int)).tmod (n3 : Int) = (k : Int) := by rw [t3, hk]
    have e5 : IntKind.i64.wrap ((k : Int)) = (k : Int) := IntWalk.i64_in _ (by omega)
    have n0 : decide ((n3 : Int) = 0) = false := by simp; omega
    have n1 : ¬ ((n3 : Int) = 0) := by omega
    clear t1 t2 t3 t4 t5
    go_upto_region 5 with (fail)
    clear e1 e2 e3 e5 hk n0 n1
    have hkc : k + 1 ≤ n3 := hkn
    obtain ⟨A5, hA5⟩ : ∃ X, (if c3 = k + 1 then some ad3 else some ⟨ad3.block, ad3.off + (k + 1), none⟩) = X := ⟨_, rfl⟩
    have w1 : (0 : Int) ≤ (k : Int) := by omega
    have w2 : (k : Int) ≤ (c3 : Int) := by omega
    have w3' : (k : Int) + 1 ≤ (n3 : Int) := by omega
    have w4 : IntKind.i64.wrap ((k : Int) + 1) = ((k + 1 : Nat) : Int) := by rw [IntWalk.i64_in _ (by omega)]; omega
    have w5 : ((k + 1 : Nat) : Int) ≤ (n3 : Int) := by omega
    refine wp_region_hops 9 [38, 39, 40, 41, 42, 43, 44, 45, 46] [.low (.rd s3 1 (some ad3) n3 (xs.map bv)), .low (.rd B 1 A n (b.map bv)), .kept w w.heap.size]
      [.lit0 s3 5 1, .eq (.slice (some ad3) n3 c3), .eq (.int .i64 k), .eq (.slice (some ad3) k c3), .own s3 5 1 k ((xs.map bv).take k), .eq (.slice (some ad3) n3 c3), .eq (.int .i64 k), .eq (.int .i64 ((k + 1 : Nat) : Int)), .eq (.slice A5 (n3 - (k + 1)) (c3 - (k + 1)))]
      (by kernel_rfl) (by kernel_rfl) hJ rfl ?hops ?fin
    case hops =>
        refine ⟨?_, ?_, ?_, ?_, ?_, ?_, ?_, ?_, ?_, trivial⟩
        · intro a' W hW hb hd K hK
          have hs : s3 ≤ W.heap.size := (hW.at_ 0 rfl : _ ∧ s3 ≤ W.heap.size).2
          go_simp
          exact hK _ _ (grown_alloc _ _) ⟨by simp; omega, _, rfl, Go.Adm.Own.lit W _ 0 hs (by decide) rfl⟩
        · intro a' W hW hb hd K hK
          have b7 := hb 7 rfl
          go_simp
          exact hK _ _ (World.grownBy.refl _ _) rfl
        · intro a' W hW hb hd K hK
          have b9 := hb 9 rfl
          go_simp
          exact hK _ _ (World.grownBy.refl _ _) rfl
        · intro a' W hW hb hd K hK
          have b39 : a'.tmps[39]?.getD undef = _ := hd ⟨1, .data⟩ (by simp) rfl
          have b40 : a'.tmps[40]?.getD undef = _ := hd ⟨2, .data⟩ (by simp) rfl
          go_simp
          exact hK _ _ (World.grownBy.refl _ _) (by first | rfl | (rw [add_zero]; rfl) | (simp [add_zero]; rfl))
        · intro a' W hW hb hd K hK
          obtain ⟨hs, ad0, b38, hO0⟩ := (hd ⟨0, .data⟩ (by simp) rfl : VF.ok (.lit0 s3 5 1) (a'.tmps[38]?.getD undef) W)
          have b41 : a'.tmps[41]?.getD undef = _ := hd ⟨3, .data⟩ (by simp) rfl
          have hsz := (hW.at_ 0 rfl : Rd W s3 1 (some ad3) n3 (xs.map bv) ∧ s3 ≤ W.heap.size)
          refine wp_app0 el_u8 (.tmp 38) (.tmp 41) rfl s3 ad0 (show a'.eval (.tmp 38) = _ from by simp only [Act.eval, Array.getD_eq_getD_getElem?]; exact b38) hO0 (some ad3) k c3 ((xs.map bv).take k) (show a'.eval (.tmp 41) = _ from by simp only [Act.eval, Array.getD_eq_getD_getElem?]; exact b41) (by have h := (hsz.1.mono hsz.2).take (k := k) (by omega); rwa [Nat.mul_one] at h) (fun u hu => bv_one xs u (List.mem_of_mem_take hu)) (by omega) hs ?_
          intro A' c' w' ho hg
          exact hK _ _ hg ⟨by have := hg.size; omega, A', c', rfl, ho⟩
        · intro a' W hW hb hd K hK
          have b7 := hb 7 rfl
          go_simp
          exact hK _ _ (World.grownBy.refl _ _) rfl
        · intro a' W hW hb hd K hK
          have b9 := hb 9 rfl
          go_simp
          exact hK _ _ (World.grownBy.refl _ _) rfl
        · intro a' W hW hb hd K hK
          have b44 : a'.tmps[44]?.getD undef = _ := hd ⟨6, .data⟩ (by simp) rfl
          go_simp
          exact hK _ _ (World.grownBy.refl _ _) rfl
        · intro a' W hW hb hd K hK
          have b43 : a'.tmps[43]?.getD undef = _ := hd ⟨5, .data⟩ (by simp) rfl
          have b45 : a'.tmps[45]?.getD undef = _ := hd ⟨7, .data⟩ (by simp) rfl
          go_simp
          exact hK _ _ (World.grownBy.refl _ _) (by first | rfl | (rw [add_zero]; rfl) | (simp [add_zero]; rfl))
    case fin =>
      intro vs V hV hv
      obtain ⟨hsV, A4, c4, e4, hO4⟩ := (hv 4 (by decide) : VF.ok (.own s3 5 1 k ((xs.map bv).take k)) (vs 4) V)
      have e8 : vs 8 = _ := hv 8 (by decide)
      clear hv hJ
      simp only [putAll, Nat.zero_add, Nat.reduceAdd, List.drop_succ_cons, List.drop_zero, e4, e8, Act.put, List.setIfInBounds_toArray, List.set_cons_succ, List.set_cons_zero]
      clear e4 e8
      have hV1 : All V (.own s3 5 1 A4 k c4 ((xs.map bv).take k) :: [.low (.rd s3 1 (some ad3) n3 (xs.map bv)), .low (.rd B 1 A n (b.map bv)), .kept w w.heap.size]) := ⟨hO4, hV⟩
      have hrd5 : Rd V s3 1 A5 (n3 - (k + 1)) ((xs.map bv).drop (k + 1)) := by
        have h := (hV.at_ 0 rfl : Rd V s3 1 (some ad3) n3 (xs.map bv) ∧ _).1.cut (k := k + 1) (cap := c3) hkc hcap3.1
        rw [Nat.mul_one] at h
        rw [← hA5]
        exact h
      clear hO4 hV
      have hapv : ∀ g, s3 ≤ g → (Value.slice A4 k c4).ownBlock = some g → Apart (some g) [.low (.rd s3 1 (some ad3) n3 (xs.map bv)), .low (.rd B 1 A n (b.map bv)), .kept w w.heap.size] := fun g hg _ => ⟨fun g' e => (by injection e with e; subst e; exact hg), fun g' e => (by injection e with e; subst e; show B ≤ _; omega), fun g' e => (by injection e with e; omega), trivial⟩
      go_upto_region 6 with (at_builtin; refine wl_app_at el_u8 hV1 0 rfl (.tmp 42) (.tmp 46) rfl s3 A4 k c4 _ rfl rfl s3 A5 _ _ ((xs.map bv).drop (k + 1)) rfl hrd5 (fun u hu => bv_one xs u (List.mem_of_mem_drop hu)) (by omega) hsV hapv ?_; intro A6 c6 w6 hI6 hs6)
      simp only [List.set_cons_zero] at hI6
      clear hV1 hrd5 hapv
      obtain ⟨ys, hys⟩ : ∃ ys : List UInt8, ys.map bv = (xs.map bv).take k ++ (xs.map bv).drop (k + 1) := ⟨xs.take k ++ xs.drop (k + 1), by simp [List.map_take, List.map_drop]⟩
      rw [← hys] at hI6
      obtain ⟨n6, hn6⟩ : ∃ n6, n6 = k + (n3 - (k + 1)) := ⟨_, rfl⟩
      rw [← hn6] at hI6 ⊢
      have hO6 : Go.Adm.Own w6 s3 5 1 A6 n6 c6 (ys.map bv) := hI6.at_ 0 rfl
      have hcap6 := Lib.hid hO6.cap
      have hcap3' := Lib.hid hcap3
      clear hys hn6 hkc w1 w2 w3' w4 w5 hA5 hxl hpos hkn hcap3 hcl hn3
      go_upto_region 7 with (fail)
      obtain ⟨gs, hgs⟩ : ∃ g, g = w6.heap.size := ⟨_, rfl⟩
      obtain ⟨B6, hB6⟩ : ∃ g, g = w6.heap.size + 1 := ⟨_, rfl⟩
      have hs36 : s3 ≤ w6.heap.size := (hI6.at_ 1 rfl : _ ∧ s3 ≤ w6.heap.size).2
      have hN7 := hI6.new (l := [.slice A n c, .slice (some ad3) n3 c3, .slice A6 n6 c6]) #[.slice A n c, .slice (some ad3) n3 c3, .slice A6 n6 c6] 22 (g := gs) hgs rfl
      have hI7 : All _ [.cells gs 22 [.slice A n c, .slice (some ad3) n3 c3, .slice A6 n6 c6], .low (.rd B6 1 A n (b.map bv)), .low (.rd B6 1 (some ad3) n3 (xs.map bv)), .low (.rd B6 1 A6 n6 (ys.map bv)), .kept w w.heap.size] := ⟨hN7.at_ 0 rfl, ⟨(hN7.at_ 3 rfl : _ ∧ _).1.mono (by rw [hB6]; omega), by show B6 ≤ _; rw [hB6]; simp⟩, ⟨(hN7.at_ 2 rfl : _ ∧ _).1.mono (by rw [hB6]; omega), by show B6 ≤ _; rw [hB6]; simp⟩, ⟨(hN7.at_ 1 rfl : Go.Adm.Own _ s3 5 1 A6 n6 c6 (ys.map bv)).rd.mono (by rw [hB6]; simp), by show B6 ≤ _; rw [hB6]; simp⟩, hN7.at_ 4 rfl, trivial⟩
      rw [← hgs]
      refine wp_gen hI7 ?_
      intro W7 hI7
      have hgB : gs < B6 := by omega
      clear hN7 hI6 hO6 hgs hB6 hs36 hs6
      have HIT : Hid (∀ j, j < 3 → ∃ A' n' c' , ∃ bs : List UInt8, [Value.slice A n c, Value.slice (some ad3) n3 c3, Value.slice A6 n6 c6][j]? = some (.slice A' n' c') ∧ n' ≤ c' ∧ c' ≤ maxLen ∧ ∀ W, All W [.cells gs 22 [.slice A n c, .slice (some ad3) n3 c3, .slice A6 n6 c6], .low (.rd B6 1 A n (b.map bv)), .low (.rd B6 1 (some ad3) n3 (xs.map bv)), .low (.rd B6 1 A6 n6 (ys.map bv)), .kept w w.heap.size] → Rd W B6 1 A' n' (bs.map bv)) := Lib.hid (fun j hj => by
        match j, hj with
        | 0, _ => exact ⟨A, n, c, b, rfl, HNC.out, HCM.out, fun W h => (h.at_ 1 rfl : _ ∧ _).1⟩
        | 1, _ => exact ⟨some ad3, n3, c3, xs, rfl, hcap3'.out.1, hcap3'.out.2, fun W h => (h.at_ 2 rfl : _ ∧ _).1⟩
        | 2, _ => exact ⟨A6, n6, c6, ys, rfl, hcap6.out.1, hcap6.out.2, fun W h => (h.at_ 3 rfl : _ ∧ _).1⟩)
      go_wp2_with fail
      go_loopw [53] (fun i wr => ∃ j : Nat, j ≤ 3 ∧ i = .int .i64 j ∧ All wr [.cells gs 22 [.slice A n c, .slice (some ad3) n3 c3, .slice A6 n6 c6], .low (.rd B6 1 A n (b.map bv)), .low (.rd B6 1 (some ad3) n3 (xs.map bv)), .low (.rd B6 1 A6 n6 (ys.map bv)), .kept w w.heap.size]) (fun i _ => 3 - (intOf i).toNat)
      case atStart => exact ⟨0, by omega, rfl, hI7⟩
      case round =>
        clear hI7
        obtain ⟨j, hj, rfl, hI⟩ := hrel
        by_cases hlt : j < 3
        · obtain ⟨A', n', c', bs, hit, hnc', hcm', hrd'⟩ := HIT.out j hlt
          have d2 : decide ((j : Int) < 3) = true := by simp; omega
          have v0 : (0 : Int) ≤ (j : Int) := by omega
          have v1 : (j : Int) < 3 := by omega
          have v2 : ((j : Int)).toNat = j := by omega
          have v3 : IntKind.i64.wrap ((j : Int) + 1) = ((j + 1 : Nat) : Int) := by rw [IntWalk.i64_in _ (by omega)]; omega
          have cj : wr.cell? ⟨gs, j, none⟩ = some (.slice A' n' c') := cell_of (hI.at_ 0 rfl) hit
          have cj2 : wr.cell? ((⟨gs, 0, none⟩ : Addr).add j) = some (.slice A' n' c') := by rw [show (⟨gs, 0, none⟩ : Addr).add j = ⟨gs, j, none⟩ from by cases j <;> simp [Addr.add]]; exact cj
          have hrd := hrd' wr hI
          have HRD := Lib.hid hrd'
          have HN' := Lib.hid hnc'
          have HC' := Lib.hid hcm'
          obtain ⟨hok, hsm, hsp⟩ := recRes_small bs
          have HOK := Lib.hid hok
          have HSM := Lib.hid hsm
          have HSP := Lib.hid hsp
          have hD1 := recDecode_any wr m (HM.out wr (hI.at_ 4 rfl : _ ∧ _).1) B6 A' n' c' bs hrd hnc' hcm' (hI.at_ 1 rfl : _ ∧ B6 ≤ wr.heap.size).2
          have HD2 : Hid (∀ W, All W [.cells gs 22 [.slice A n c, .slice (some ad3) n3 c3, .slice A6 n6 c6], .low (.rd B6 1 A n (b.map bv)), .low (.rd B6 1 (some ad3) n3 (xs.map bv)), .low (.rd B6 1 A6 n6 (ys.map bv)), .kept w w.heap.size] → Calls Tryz.prog 8 #[.slice A' n' c'] W (RdPost bs W)) := Lib.hid (fun W h => rrDecode_any W m (HM.out W (h.at_ 4 rfl : _ ∧ _).1) B6 A' n' c' bs (HRD.out W h) HN'.out HC'.out (h.at_ 1 rfl : _ ∧ B6 ≤ W.heap.size).2)
          unfold RdPost at hD1 HD2
          generalize (recRes bs).1 = X at *
          generalize (recRes bs).2 = q at *
          clear hit hnc' hcm' hrd' hrd hok hsm hsp HRD HN' HC'
          go_upto_region 10 with (first
            | (go_at_call 7; refine hD1.mono ?_; clear hD1 cj cj2; rintro e w2 ⟨sc, se, sm, sp, rfl, hin, hb2⟩; have hW2 := (hI.call hb2).cons (r := .low (Go.AdR.Low.recd w2.heap.size X sc se sm sp)) ⟨hin, Nat.le_refl _⟩; clear hin hb2 hI)
            | (refine wl_store_at (hW2.new (l := recZ) recZ.toArray 31 rfl rfl) 0 rfl 31 (.tmp 13) (.tmp 60) rfl w2.heap.size _ recZ (recC X sc se sm sp) rfl rfl rfl rfl (by kernel_rfl) (recC_one _ _ _ _ _) ⟨fun g e => (by injection e with e; subst e; exact Nat.le_refl _), fun e => (by have := Cells.lt (hW2.at_ 1 rfl); injection e with e; omega), fun g e => (by have := (hW2.at_ 2 rfl : _ ∧ B6 ≤ w2.heap.size).2; injection e with e; subst e; exact this), fun g e => (by have := (hW2.at_ 2 rfl : _ ∧ B6 ≤ w2.heap.size).2; injection e with e; subst e; exact this), fun g e => (by have := (hW2.at_ 2 rfl : _ ∧ B6 ≤ w2.heap.size).2; injection e with e; subst e; exact this), fun g e => (by have := (hW2.at_ 5 rfl : _ ∧ w.heap.size ≤ w2.heap.size).2; injection e with e; subst e; exact this), trivial⟩ ?_; intro w4 hW4 hs4))
          simp only [List.set_cons_zero] at hW4
          obtain ⟨gx, hgx⟩ : ∃ g, g = w2.heap.size := ⟨_, rfl⟩
          rw [← hgx] at hW4 ⊢
          have hgx4 := Cells.lt (hW4.at_ 0 rfl)
          clear hW2 hgx hs4
          have hD2 := HD2.out w4 hW4.2.2
          clear HD2
          go_upto_region 11 with (first
            | (go_at_call 8; refine hD2.mono ?_; clear hD2; rintro e w5 ⟨sc', se', sm', sp', rfl, hin, hb5⟩; have hW5 := (hW4.call hb5).cons (r := .low (Go.AdR.Low.recd w5.heap.size X sc' se' sm' sp')) ⟨hin, Nat.le_refl _⟩; clear hin hb5 hW4)
            | (refine wl_store_at (hW5.new (l := recZ) recZ.toArray 31 rfl rfl) 0 rfl 31 (.tmp 15) (.tmp 65) rfl w5.heap.size _ recZ (recC X sc' se' sm' sp') rfl rfl rfl rfl (by kernel_rfl) (recC_one _ _ _ _ _) ⟨fun g e => (by injection e with e; subst e; exact Nat.le_refl _), fun e => (by have := Cells.lt (hW5.at_ 1 rfl); injection e with e; omega), fun g e => (by have := (hW5.at_ 2 rfl : _ ∧ gx ≤ w5.heap.size).2; injection e with e; subst e; exact this), fun e => (by have := Cells.lt (hW5.at_ 3 rfl); injection e with e; omega), fun g e => (by have := (hW5.at_ 4 rfl : _ ∧ B6 ≤ w5.heap.size).2; injection e with e; subst e; exact this), fun g e => (by have := (hW5.at_ 4 rfl : _ ∧ B6 ≤ w5.heap.size).2; injection e with e; subst e; exact this), fun g e => (by have := (hW5.at_ 4 rfl : _ ∧ B6 ≤ w5.heap.size).2; injection e with e; subst e; exact this), fun g e => (by have := (hW5.at_ 7 rfl : _ ∧ w.heap.size ≤ w5.heap.size).2; injection e with e; subst e; exact this), trivial⟩ ?_; intro w6 hW6 hs6))
          simp only [List.set_cons_zero] at hW6
          obtain ⟨gy, hgy⟩ : ∃ g, g = w5.heap.size := ⟨_, rfl⟩
          rw [← hgy] at hW6 ⊢
          clear hW5 hgy hs6
          have hsame := rSame_true w6 w6.heap.size X sc se sm sp sc' se' sm' sp' (RecIn.mono (hW6.at_ 3 rfl : _ ∧ _).1 (hW6.at_ 3 rfl : _ ∧ gx ≤ w6.heap.size).2) (RecIn.mono (hW6.at_ 1 rfl : _ ∧ _).1 (hW6.at_ 1 rfl : _ ∧ gy ≤ w6.heap.size).2) HOK.out HSM.out HSP.out (Nat.le_refl _)
          have dq : (q != q) = false := by simp
          go_upto_region 13 with (first
            | (refine wl_met rfl ?_; refine wp_load_any 31 (.tmp 13) rfl ⟨gx, 0, none⟩ rfl (recC X sc se sm sp) _ (cell_all (hW6.at_ 2 rfl)) Tryz.underlying31 rfl (by kernel_rfl) ?_)
            | (refine wl_met rfl ?_; refine wp_load_any 31 (.tmp 15) rfl ⟨gy, 0, none⟩ rfl (recC X sc' se' sm' sp') _ (cell_all (hW6.at_ 0 rfl)) Tryz.underlying31 rfl (by kernel_rfl) ?_)
            | (go_at_call 9; refine hsame.mono ?_; clear hsame; rintro e w7 ⟨rfl, hb7⟩; have hW7 := hW6.call hb7))
          have hW8 : All w7 [.cells gs 22 [.slice A n c, .slice (some ad3) n3 c3, .slice A6 n6 c6], .low (.rd B6 1 A n (b.map bv)), .low (.rd B6 1 (some ad3) n3 (xs.map bv)), .low (.rd B6 1 A6 n6 (ys.map bv)), .kept w w.heap.size] := hW7.2.2.2.2
          clear hW7 hW6 hb7
          go_wp2_with fail
          exact ⟨⟨j + 1, by omega, by first | rfl | go_num, hW8⟩, by simp [intOf]; omega⟩
        · obtain rfl : j = 3 := by omega
          have hk9 := (hI.at_ 4 rfl : _ ∧ w.heap.size ≤ wr.heap.size)
          have haw := awake_any m wr (HM.out wr hk9.1) (Nat.lt_of_lt_of_le HGM.out hk9.2) (HT.out wr hk9.1)
          go_wp2_with (go_at_call 10; refine haw.mono ?_; clear haw; rintro e w9 ⟨rfl, hb9⟩)
          go_ret
          exact ⟨rfl, hk9.1.trans (hb9.mono hk9.2)⟩
end Go.Proofs.YtjdinakdkdjocaaGreatDoor

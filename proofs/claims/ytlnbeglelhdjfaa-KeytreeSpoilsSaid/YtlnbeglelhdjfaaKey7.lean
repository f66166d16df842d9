/- One-time signatures. -/
import Derived.Test.YtlnbeglelhdjfaaDig3
set_option linter.unusedSimpArgs false
set_option linter.unusedVariables false
namespace Go.Adm
open Go Go.RowKit
theorem results_row_tmp {P : Program} {fn : Func} {p q : Tmp} {ty : TypeId} (h : fn.results = #[.cell p ty, .tmp q]) (tmps : Array Value) (w : World) (g : Nat) (t : TypeId) (cs : Array Value) (fr : Nat × Nat) (d : TypeDesc)
    (hp : tmps.getD p undef = .pointer (some ⟨g, 0, none⟩)) (hg : w.heap[g]? = some (.cells cs t fr))
    (hu : P.underlying ty = some d) (hd : (match d with | .struct _ | .array _ _ => true | _ => false) = true) (hi : (P.info? ty).map (·.size) = some cs.size) :
    (results fn tmps).run P w = .ok (.tuple #[.agg cs, tmps.getD q undef]) w := by
  have hp' : tmps[p]?.getD undef = .pointer (some ⟨g, 0, none⟩) := by simpa using hp
  simp [results, h, hp', asAddr, run_loadVar_row w g t ty cs fr d hg hu hd hi]
def dgt (d : List UInt8) (i : Nat) : Fin 4 := (digitsS d).getD i 0
theorem digitsS_len (d : List UInt8) (h : d.length = 32) : (digitsS d).length = 68 := by
  unfold digitsS digits16
  rw [List.length_append, digits_len, List.length_take, h, dig4_len]
  rfl
theorem dgt_at (d : List UInt8) (h : d.length = 32) (k : Nat) (hk : k < 68) : ((digitsS d).map fv)[k]? = some (fv (dgt d k)) := by
  have h1 := digitsS_len d h
  rw [List.getElem?_map, List.getElem?_eq_getElem (by omega)]
  simp [dgt, List.getD, h1, hk]
def list68 (f : Nat → List UInt8) : List (List UInt8) := (List.range 68).map f
theorem list68_len (f : Nat → List UInt8) : (list68 f).length = 68 := by simp [list68]
theorem list68_each (f : Nat → List UInt8) (h : ∀ i, i < 68 → (f i).length = 16) : ∀ x ∈ list68 f, x.length = 16 := by
  intro x hx
  obtain ⟨i, hi, rfl⟩ := List.mem_map.1 hx
  exact h i (by simpa using hi)
theorem list68_succ (f : Nat → List UInt8) (k : Nat) (hk : k < 68) : (list68 f).take (k + 1) = (list68 f).take k ++ [f k] := by
  rw [List.take_succ_eq_append_getElem (by rw [list68_len]; exact hk)]
  simp [list68]
def signF (seed : List UInt8) (leaf : Int) (d : List UInt8) (i : Nat) : List UInt8 := climbS (secretS seed leaf i) leaf i 0 ((dgt d i).val : Nat)
def signS (seed : List UInt8) (leaf : Int) (d : List UInt8) : List (List UInt8) := list68 (signF seed leaf d)
theorem signF_len (seed : List UInt8) (leaf : Int) (d : List UInt8) (i : Nat) : (signF seed leaf d i).length = 16 := climbS_len _ _ _ _ _ (secretS_len _ _ _)
def recF (leaf : Int) (d : List UInt8) (sig : List (List UInt8)) (i : Nat) : List UInt8 := climbS (sig.getD i []) leaf i ((dgt d i).val : Nat) 3
def recS (leaf : Int) (d : List UInt8) (sig : List (List UInt8)) : List UInt8 := combineS leaf (list68 (recF leaf d sig))
theorem recS_len (leaf : Int) (d : List UInt8) (sig : List (List UInt8)) : (recS leaf d sig).length = 16 := combineS_len _ _
def SignPost (seed : List UInt8) (leaf : Int) (d : List UInt8) (tid : TypeId) (w : World) (e : Ending) (w' : World) : Prop := ∃ A c, e = .returned (.slice A 68 c) ∧ Go.Adm.Own w' w.heap.size tid 16 A 68 c (hvs (signS seed leaf d)).flatten ∧ Below w.heap.size w w'
end Go.Adm
namespace Go.Proofs.Ytlnbeglelhdjfaa
open Go Go.RowKit Go.Adm

set_option maxRecDepth 100000 in
set_option maxHeartbeats 3200000 in
theorem Sign_any (w : World) (seed : List UInt8) (leaf : Int) (d : List UInt8) (hs : seed.length = 16) (hd : d.length = 32) :
    Calls Try.prog 26 #[.agg (seed.map bv).toArray, .int .i64 leaf, .agg (d.map bv).toArray] w (SignPost seed leaf d 23 w) := by
  have hR : All w [.kept w w.heap.size] := ⟨⟨Below.refl _ _, Nat.le_refl _⟩, trivial⟩
  have hsl := Lib.hid hs
  have hdl := Lib.hid hd
  go_enter Try.func26, Try.ntmps26
  go_upto_region 1 with (fail)
  refine wp_gen ((hR.new (l := seed.map bv) _ 23 rfl rfl).new (l := d.map bv) _ 27 (g := w.heap.size + 1) (by simp) rfl) ?_
  intro W hW
  have hltW : w.heap.size + 1 < W.heap.size := Cells.lt (hW.at_ 0 rfl)
  clear hs hd
  go_wp2_with (refine wl_load_at rfl 27 (.tmp 5) rfl (w.heap.size + 1) _ _ (hW.at_ 0 rfl) rfl _ Try.underlying27 rfl (by rw [List.length_map, hdl.out]; kernel_rfl) ?_)
  refine (Digits_any W d hdl.out).mono ?_
  rintro e w4 ⟨A4, c4, rfl, hc4, hm4, hrd4, hb4⟩
  obtain ⟨B4, hB4⟩ : ∃ B, B = w4.heap.size := ⟨_, rfl⟩
  have hI4 : All w4 [.own B4 23 16 none 0 0 (hvs ((list68 (signF seed leaf d)).take 0)).flatten, .cells w.heap.size 23 (seed.map bv), .low (.rd B4 1 A4 68 ((digitsS d).map fv)), .kept w w.heap.size] := ⟨Go.Adm.Own.nil _ _ _ _, (hW.call hb4).2.1, ⟨by rw [hB4]; exact hrd4, Nat.le_of_eq hB4⟩, (hW.call hb4).2.2.1, trivial⟩
  have hs4 := hb4.size
  have hBw : B4 ≤ w4.heap.size := Nat.le_of_eq hB4
  have hBg : w.heap.size + 2 ≤ B4 := by omega
  clear hW hrd4 hb4 hB4 hm4 hc4
  go_wp2
  go_loopw [7, 13] (fun v i wr => ∃ (k : Nat) (A' : Option Addr) (c' : Nat), k ≤ 68 ∧ i = .int .i64 k ∧ v = .slice A' k c' ∧ All wr [.own B4 23 16 A' k c' (hvs ((list68 (signF seed leaf d)).take k)).flatten, .cells w.heap.size 23 (seed.map bv), .low (.rd B4 1 A4 68 ((digitsS d).map fv)), .kept w w.heap.size] ∧ B4 ≤ wr.heap.size) (fun _ i _ => 68 - (intOf i).toNat)
  case atStart => exact ⟨0, none, 0, by omega, rfl, rfl, hI4, by omega⟩
  case round =>
    obtain ⟨k, A', c', hk, rfl, rfl, hI, hsz⟩ := hrel
    by_cases hlt : k < 68
    · have hM := Lib.hid (list68_succ (signF seed leaf d) k hlt)
      obtain ⟨ad, u, rfl, _, hu, hc⟩ := Rd.cell (hI.2.2.1.1 : Rd wr B4 1 _ 68 _) hlt
      rw [dgt_at d hdl.out k hlt] at hu
      obtain rfl := Option.some.inj hu
      have hc2 : wr.cell? (ad.add k) = some (.int .i64 (((dgt d k).val : Nat) : Int)) := hc
      have hx := (dgt d k).isLt
      have h16b := Lib.hid (signF_len seed leaf d k)
      clear hc hu
      go_wp2_with (refine wl_load_at rfl 23 (.tmp 3) rfl w.heap.size _ _ (hI.at_ 1 rfl) rfl _ Try.underlying23 rfl (by rw [List.length_map, hsl.out]; kernel_rfl) ?_)
      refine (Secret_any wr seed leaf k hsl.out).mono ?_
      rintro e w5 ⟨rfl, hb5⟩
      have hI5 := hI.call hb5
      have hs5 := hb5.size
      clear hI hb5 hc2
      go_wp2_with fail
      refine (Climb_any w5 (secretS seed leaf k) leaf k 0 (((dgt d k).val : Nat) : Int) (secretS_len _ _ _)).mono ?_
      rintro e w6 ⟨rfl, hb6⟩
      have hI6 := hI5.call hb6
      have hs6 := hb6.size
      clear hI5 hb6
      rw [show climbS (secretS seed leaf k) leaf k 0 (((dgt d k).val : Nat) : Int) = signF seed leaf d k from rfl]
      generalize signF seed leaf d k = x at *
      go_wp2_with (first | (refine wl_lit1 els_half rfl _ rfl (x.map bv) rfl (by rw [List.length_map, h16b.out]) (by decide) ?_) | (at_builtin; refine wl_app_at els_half (hI6.alloc _) 0 rfl (.tmp 18) (.tmp 27) rfl B4 _ _ _ _ rfl rfl (w6.heap.size + 1) _ 1 1 (x.map bv) rfl (Rd.lit w6 (x.map bv).toArray _ 1 (by rw [List.size_toArray, List.length_map, h16b.out])) (bv_one _) (by omega) (by simp; omega) (by intro g hg _; simp [Apart, Res.apart, Low.rd] <;> omega) ?_; intro A7 c7 w7 hI7 hs7))
      refine ⟨⟨k + 1, A7, c7, by omega, by go_num, rfl, ?_, by first | omega | (simp at hs7; omega)⟩, by simp [intOf]; omega⟩
      rw [hM.out, ← hvs_snoc]
      exact hI7
    · obtain rfl : k = 68 := by omega
      rw [List.take_of_length_le (by rw [list68_len]; omega)] at hI
      go_wp2
      go_ret
      exact ⟨A', c', rfl, Go.Adm.Own.less hI.1 (by omega), (hI.at_ 3 rfl).1⟩

set_option maxRecDepth 100000 in
set_option maxHeartbeats 3200000 in
theorem refSign_any (w : World) (seed : List UInt8) (leaf : Int) (d : List UInt8) (hs : seed.length = 16) (hd : d.length = 32) :
    Calls Try.prog 28 #[.agg (seed.map bv).toArray, .int .i64 leaf, .agg (d.map bv).toArray] w (SignPost seed leaf d 23 w) := by
  have hR : All w [.kept w w.heap.size] := ⟨⟨Below.refl _ _, Nat.le_refl _⟩, trivial⟩
  have hsl := Lib.hid hs
  have hdl := Lib.hid hd
  go_enter Try.func28, Try.ntmps28
  go_upto_region 1 with (fail)
  refine wp_gen ((hR.new (l := seed.map bv) _ 23 rfl rfl).new (l := d.map bv) _ 27 (g := w.heap.size + 1) (by simp) rfl) ?_
  intro W hW
  have hltW : w.heap.size + 1 < W.heap.size := Cells.lt (hW.at_ 0 rfl)
  clear hs hd
  go_wp2_with (refine wl_load_at rfl 27 (.tmp 5) rfl (w.heap.size + 1) _ _ (hW.at_ 0 rfl) rfl _ Try.underlying27 rfl (by rw [List.length_map, hdl.out]; kernel_rfl) ?_)
  refine (refDigits_any W d hdl.out).mono ?_
  rintro e w4 ⟨A4, c4, rfl, hc4, hm4, hrd4, hb4⟩
  obtain ⟨B4, hB4⟩ : ∃ B, B = w4.heap.size := ⟨_, rfl⟩
  have hI4 : All w4 [.own B4 23 16 none 0 0 (hvs ((list68 (signF seed leaf d)).take 0)).flatten, .cells w.heap.size 23 (seed.map bv), .low (.rd B4 1 A4 68 ((digitsS d).map fv)), .kept w w.heap.size] := ⟨Go.Adm.Own.nil _ _ _ _, (hW.call hb4).2.1, ⟨by rw [hB4]; exact hrd4, Nat.le_of_eq hB4⟩, (hW.call hb4).2.2.1, trivial⟩
  have hs4 := hb4.size
  have hBw : B4 ≤ w4.heap.size := Nat.le_of_eq hB4
  have hBg : w.heap.size + 2 ≤ B4 := by omega
  clear hW hrd4 hb4 hB4 hm4 hc4
  go_wp2
  go_loopw [8, 9] (fun v i wr => ∃ (k : Nat) (A' : Option Addr) (c' : Nat), k ≤ 68 ∧ i = .int .i64 k ∧ v = .slice A' k c' ∧ All wr [.own B4 23 16 A' k c' (hvs ((list68 (signF seed leaf d)).take k)).flatten, .cells w.heap.size 23 (seed.map bv), .low (.rd B4 1 A4 68 ((digitsS d).map fv)), .kept w w.heap.size] ∧ B4 ≤ wr.heap.size) (fun _ i _ => 68 - (intOf i).toNat)
  case atStart => exact ⟨0, none, 0, by omega, rfl, rfl, hI4, by omega⟩
  case round =>
    obtain ⟨k, A', c', hk, rfl, rfl, hI, hsz⟩ := hrel
    by_cases hlt : k < 68
    · have hM := Lib.hid (list68_succ (signF seed leaf d) k hlt)
      obtain ⟨ad, u, rfl, _, hu, hc⟩ := Rd.cell (hI.2.2.1.1 : Rd wr B4 1 _ 68 _) hlt
      rw [dgt_at d hdl.out k hlt] at hu
      obtain rfl := Option.some.inj hu
      have hc2 : wr.cell? (ad.add k) = some (.int .i64 (((dgt d k).val : Nat) : Int)) := hc
      have hx := (dgt d k).isLt
      have h16b := Lib.hid (signF_len seed leaf d k)
      clear hc hu
      have HC2 : Hid (∀ W, All W [.own B4 23 16 A' k c' (hvs ((list68 (signF seed leaf d)).take k)).flatten, .cells w.heap.size 23 (seed.map bv), .low (.rd B4 1 (some ad) 68 ((digitsS d).map fv)), .kept w w.heap.size] → W.cell? (ad.add k) = some (.int .i64 (((dgt d k).val : Nat) : Int))) := Lib.hid (fun W hW => by
        obtain ⟨ad2, u, he, _, hu2, hc⟩ := Rd.cell (hW.2.2.1.1 : Rd W B4 1 _ 68 _) hlt
        injection he with he; subst he
        rw [dgt_at d hdl.out k hlt] at hu2
        obtain rfl := Option.some.inj hu2
        exact hc)
      have hki : (0 : Int) ≤ (k : Int) := by omega
      have hki2 : (k : Int) < 68 := by omega
      go_wp2
      refine wp_region_hops 13 [16, 17, 18, 19, 20, 21, 22, 23, 24, 25, 26, 27, 28] _
        [.eq (.slice A' k c'), .eq (.agg (seed.map bv).toArray), .eq (.int .i64 leaf), .eq (.int .i64 k), .eq (.agg ((secretS seed leaf k).map bv).toArray), .eq (.int .i64 leaf), .eq (.int .i64 k), .eq (.slice (some ad) 68 c4), .eq (.int .i64 k), .eq (.pointer (some (ad.add k))), .eq (.int .i64 (((dgt d k).val : Nat) : Int)), .eq (.agg ((signF seed leaf d k).map bv).toArray), .rd 16 1 ((signF seed leaf d k).map bv)]
        (by kernel_rfl) (by kernel_rfl) hI rfl ?hops ?fin
      case hops =>
        refine ⟨?_, ?_, ?_, ?_, ?_, ?_, ?_, ?_, ?_, ?_, ?_, ?_, ?_, trivial⟩
        · intro a W hW hb hd K hK
          have b8 := hb 8 rfl
          go_simp
          exact hK _ _ (World.grownBy.refl _ _) rfl
        · intro a W hW hb hd K hK
          have b3 := hb 3 rfl
          refine wp_load_mid 23 (.tmp 3) rfl w.heap.size 0 (by simp [Act.eval, b3]) (seed.map bv) _ (Cells.range (hW.at_ 1 rfl)) Try.underlying23 rfl (by rw [List.length_map, hsl.out]; kernel_rfl) ?_
          exact hK _ _ (World.grownBy.refl _ _) rfl
        · intro a W hW hb hd K hK
          have b1 := hb 1 rfl
          go_simp
          exact hK _ _ (World.grownBy.refl _ _) rfl
        · intro a W hW hb hd K hK
          have b9 := hb 9 rfl
          go_simp
          exact hK _ _ (World.grownBy.refl _ _) rfl
        · intro a W hW hb hd K hK
          have b17 : a.tmps[17]?.getD undef = _ := hd ⟨1, .data⟩ (by simp) rfl
          have b18 : a.tmps[18]?.getD undef = _ := hd ⟨2, .data⟩ (by simp) rfl
          have b19 : a.tmps[19]?.getD undef = _ := hd ⟨3, .data⟩ (by simp) rfl
          go_simp
          refine (refSecret_any W seed leaf k hsl.out).mono ?_
          rintro e w' ⟨rfl, hb'⟩
          exact hK _ _ (grown_of_below hb') rfl
        · intro a W hW hb hd K hK
          have b1 := hb 1 rfl
          go_simp
          exact hK _ _ (World.grownBy.refl _ _) rfl
        · intro a W hW hb hd K hK
          have b9 := hb 9 rfl
          go_simp
          exact hK _ _ (World.grownBy.refl _ _) rfl
        · intro a W hW hb hd K hK
          have b7 := hb 7 rfl
          go_simp
          exact hK _ _ (World.grownBy.refl _ _) rfl
        · intro a W hW hb hd K hK
          have b9 := hb 9 rfl
          go_simp
          exact hK _ _ (World.grownBy.refl _ _) rfl
        · intro a W hW hb hd K hK
          have b23 : a.tmps[23]?.getD undef = _ := hd ⟨7, .data⟩ (by simp) rfl
          have b24 : a.tmps[24]?.getD undef = _ := hd ⟨8, .data⟩ (by simp) rfl
          go_simp
          exact hK _ _ (World.grownBy.refl _ _) rfl
        · intro a W hW hb hd K hK
          have b25 : a.tmps[25]?.getD undef = _ := hd ⟨9, .data⟩ (by simp) rfl
          have hc3 : W.cell? (ad.add k) = some (.int .i64 (((dgt d k).val : Nat) : Int)) := HC2.out W hW
          go_simp
          exact hK _ _ (World.grownBy.refl _ _) rfl
        · intro a W hW hb hd K hK
          have b20 : a.tmps[20]?.getD undef = _ := hd ⟨4, .data⟩ (by simp) rfl
          have b21 : a.tmps[21]?.getD undef = _ := hd ⟨5, .data⟩ (by simp) rfl
          have b22 : a.tmps[22]?.getD undef = _ := hd ⟨6, .data⟩ (by simp) rfl
          have b26 : a.tmps[26]?.getD undef = _ := hd ⟨10, .data⟩ (by simp) rfl
          go_simp
          refine (refClimb_any W (secretS seed leaf k) leaf k 0 (((dgt d k).val : Nat) : Int) (secretS_len _ _ _)).mono ?_
          rintro e w' ⟨rfl, hb'⟩
          exact hK _ _ (grown_of_below hb') rfl
        · intro a W hW hb hd K hK
          have b27 : a.tmps[27]?.getD undef = _ := hd ⟨11, .data⟩ (by simp) rfl
          refine wp_lit1 els_half (.tmp 27) rfl ((signF seed leaf d k).map bv) (by simp [Act.eval, b27]) (by rw [List.length_map, h16b.out]) (by decide) ?_
          exact hK _ _ (grown_alloc _ _) ⟨_, _, rfl, (Rd.lit W ((signF seed leaf d k).map bv).toArray _ 1 (by rw [List.size_toArray, List.length_map, h16b.out])).mono (by simp)⟩
      case fin =>
        intro vs W hW hv
        have e0 : vs 0 = _ := hv 0 (by decide)
        obtain ⟨A6, c6, e12, hr6⟩ : ∃ A c, vs 12 = .slice A 1 c ∧ Rd W W.heap.size 16 A 1 ((signF seed leaf d k).map bv) := hv 12 (by decide)
        have hsW : B4 ≤ W.heap.size := (hW.2.2.1.2 : B4 ≤ W.heap.size)
        clear hv hI HC2 hc2
        simp only [putAll, List.drop_succ_cons, List.drop_zero, e0, e12, Act.put, List.setIfInBounds_toArray, List.set_cons_succ, List.set_cons_zero]
        clear e0 e12
        generalize signF seed leaf d k = x at *
        refine wl_app_at els_half hW 0 rfl (.tmp 16) (.tmp 28) rfl B4 _ _ _ _ rfl rfl W.heap.size _ 1 _ (x.map bv) rfl hr6 (bv_one _) (by omega) hsW (by intro g hg _; simp [Apart, Res.apart, Low.rd] <;> omega) ?_
        intro A7 c7 w7 hI7 hs7
        go_wp2
        refine ⟨⟨k + 1, A7, c7, by omega, by go_num, rfl, ?_, by first | omega | (simp at hs7; omega)⟩, by simp [intOf]; omega⟩
        rw [hM.out, ← hvs_snoc]
        exact hI7
    · obtain rfl : k = 68 := by omega
      rw [List.take_of_length_le (by rw [list68_len]; omega)] at hI
      go_wp2
      go_ret
      exact ⟨A', c', rfl, Go.Adm.Own.less hI.1 (by omega), (hI.at_ 3 rfl).1⟩

end Go.Proofs.Ytlnbeglelhdjfaa

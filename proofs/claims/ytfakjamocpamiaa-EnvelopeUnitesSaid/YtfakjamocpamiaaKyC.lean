/- One-time signatures. The public key that a one-time signature belongs to. The levels of a tree. Leaves and levels. All levels of a tree. The tree. Public keys. Valid and Shaped. -/
import Derived.Test.YtfakjamocpamiaaKyB
set_option linter.unusedSimpArgs false
set_option linter.unusedVariables false
namespace Go.Adm
open Go Go.RowKit
theorem results_row_tmp {P : Program} {fn : Func} {p q : Tmp} {ty : TypeId} (h : fn.results = #[.cell p ty, .tmp q]) (tmps : Array Value) (w : World) (g : Nat) (t : TypeId) (cs : Array Value) (fr : Nat × Nat) (d : TypeDesc)
  (hp : tmps.getD p undef = .pointer (some ⟨g, 0, none⟩)) (hg : w.heap[g]? = some (.cells cs t fr))
  (hu : P.underlying ty = some d) (hd : (match d with | .struct _ | .array _ _ => true | _ => false) = true) (hi : (P.info? ty).map (·.size) = some cs.size) :
  (results fn tmps).run P w = .ok (.tuple #[.agg cs, tmps.getD q undef]) w := by
 have hp' : tmps[p]?.getD undef = .pointer (some ⟨g, 0, none⟩) := by simpa using hp
 simp [results, h, hp', asAddr, run_loadVar_row w g t ty cs fr d hg hu hd hi]
def dgt (d : List UInt8) (i : Nat) : Fin 4 := (digitsS d).getD i 0
theorem digitsS_len (d : List UInt8) (h : d.length = 32) : (digitsS d).length = 68 := by
 unfold digitsS digits16
 rw [List.length_append, digits_len, List.length_take, h, dig4_len]
 rfl
theorem dgt_at (d : List UInt8) (h : d.length = 32) (k : Nat) (hk : k < 68) : ((digitsS d).map fv)[k]? = some (fv (dgt d k)) := by
 have h1 := digitsS_len d h
 rw [List.getElem?_map, List.getElem?_eq_getElem (by omega)]
 simp [dgt, List.getD, h1, hk]
def list68 (f : Nat → List UInt8) : List (List UInt8) := (List.range 68).map f
theorem list68_len (f : Nat → List UInt8) : (list68 f).length = 68 := by simp [list68]
theorem list68_each (f : Nat → List UInt8) (h : ∀ i, i < 68 → (f i).length = 16) : ∀ x ∈ list68 f, x.length = 16 := by
 intro x hx
 obtain ⟨i, hi, rfl⟩ := List.mem_map.1 hx
 exact h i (by simpa using hi)
theorem list68_succ (f : Nat → List UInt8) (k : Nat) (hk : k < 68) : (list68 f).take (k + 1) = (list68 f).take k ++ [f k] := by
 rw [List.take_succ_eq_append_getElem (by rw [list68_len]; exact hk)]
 simp [list68]
def signF (seed : List UInt8) (leaf : Int) (d : List UInt8) (i : Nat) : List UInt8 := climbS (secretS seed leaf i) leaf i 0 ((dgt d i).val : Nat)
def signS (seed : List UInt8) (leaf : Int) (d : List UInt8) : List (List UInt8) := list68 (signF seed leaf d)
theorem signF_len (seed : List UInt8) (leaf : Int) (d : List UInt8) (i : Nat) : (signF seed leaf d i).length = 16 := climbS_len _ _ _ _ _ (secretS_len _ _ _)
def recF (leaf : Int) (d : List UInt8) (sig : List (List UInt8)) (i : Nat) : List UInt8 := climbS (sig.getD i []) leaf i ((dgt d i).val : Nat) 3
def recS (leaf : Int) (d : List UInt8) (sig : List (List UInt8)) : List UInt8 := combineS leaf (list68 (recF leaf d sig))
theorem recS_len (leaf : Int) (d : List UInt8) (sig : List (List UInt8)) : (recS leaf d sig).length = 16 := combineS_len _ _
def SignPost (seed : List UInt8) (leaf : Int) (d : List UInt8) (tid : TypeId) (w : World) (e : Ending) (w' : World) : Prop := ∃ A c, e = .returned (.slice A 68 c) ∧ Go.Adm.Own w' w.heap.size tid 16 A 68 c (hvs (signS seed leaf d)).flatten ∧ Below w.heap.size w w'
end Go.Adm
namespace Go.Proofs.Ytfakjamocpamiaa
open Go Go.RowKit Go.Adm

set_option maxRecDepth 100000 in
set_option maxHeartbeats 3200000 in
theorem Sign_any (w : World) (seed : List UInt8) (leaf : Int) (d : List UInt8) (hs : seed.length = 16) (hd : d.length = 32) :
  Calls Try.prog 67 #[.agg (seed.map bv).toArray, .int .i64 leaf, .agg (d.map bv).toArray] w (SignPost seed leaf d 41 w) := by
 have hR : All w [.kept w w.heap.size] := ⟨⟨Below.refl _ _, Nat.le_refl _⟩, trivial⟩
 have hsl := Lib.hid hs
 have hdl := Lib.hid hd
 go_enter Try.func67, Try.ntmps67
 go_upto_region 1 with (fail)
 refine wp_gen ((hR.new (l := seed.map bv) _ 41 rfl rfl).new (l := d.map bv) _ 37 (g := w.heap.size + 1) (by simp) rfl) ?_
 intro W hW
 have hltW : w.heap.size + 1 < W.heap.size := Cells.lt (hW.at_ 0 rfl)
 clear hs hd
 go_wp2_with (refine wl_load_at rfl 37 (.tmp 5) rfl (w.heap.size + 1) _ _ (hW.at_ 0 rfl) rfl _ Try.underlying37 rfl (by rw [List.length_map, hdl.out]; kernel_rfl) ?_)
 refine (Digits_any W d hdl.out).mono ?_
 rintro e w4 ⟨A4, c4, rfl, hc4, hm4, hrd4, hb4⟩
 obtain ⟨B4, hB4⟩ : ∃ B, B = w4.heap.size := ⟨_, rfl⟩
 have hI4 : All w4 [.own B4 41 16 none 0 0 (hvs ((list68 (signF seed leaf d)).take 0)).flatten, .cells w.heap.size 41 (seed.map bv), .low (.rd B4 1 A4 68 ((digitsS d).map fv)), .kept w w.heap.size] := ⟨Go.Adm.Own.nil _ _ _ _, (hW.call hb4).2.1, ⟨by rw [hB4]; exact hrd4, Nat.le_of_eq hB4⟩, (hW.call hb4).2.2.1, trivial⟩
 have hs4 := hb4.size
 have hBw : B4 ≤ w4.heap.size := Nat.le_of_eq hB4
 have hBg : w.heap.size + 2 ≤ B4 := by omega
 clear hW hrd4 hb4 hB4 hm4 hc4
 go_wp2
 go_loopw [7, 13] (fun v i wr => ∃ (k : Nat) (A' : Option Addr) (c' : Nat), k ≤ 68 ∧ i = .int .i64 k ∧ v = .slice A' k c' ∧ All wr [.own B4 41 16 A' k c' (hvs ((list68 (signF seed leaf d)).take k)).flatten, .cells w.heap.size 41 (seed.map bv), .low (.rd B4 1 A4 68 ((digitsS d).map fv)), .kept w w.heap.size] ∧ B4 ≤ wr.heap.size) (fun _ i _ => 68 - (intOf i).toNat)
 case atStart => exact ⟨0, none, 0, by omega, rfl, rfl, hI4, by omega⟩
 case round =>
  obtain ⟨k, A', c', hk, rfl, rfl, hI, hsz⟩ := hrel
  by_cases hlt : k < 68
  ·have hM := Lib.hid (list68_succ (signF seed leaf d) k hlt)
   obtain ⟨ad, u, rfl, _, hu, hc⟩ := Rd.cell (hI.2.2.1.1 : Rd wr B4 1 _ 68 _) hlt
   rw [dgt_at d hdl.out k hlt] at hu
   obtain rfl := Option.some.inj hu
   have hc2 : wr.cell? (ad.add k) = some (.int .i64 (((dgt d k).val : Nat) : Int)) := hc
   have hx := (dgt d k).isLt
   have h16b := Lib.hid (signF_len seed leaf d k)
   clear hc hu
   go_wp2_with (refine wl_load_at rfl 41 (.tmp 3) rfl w.heap.size _ _ (hI.at_ 1 rfl) rfl _ Try.underlying41 rfl (by rw [List.length_map, hsl.out]; kernel_rfl) ?_)
   refine (Secret_any wr seed leaf k hsl.out).mono ?_
   rintro e w5 ⟨rfl, hb5⟩
   have hI5 := hI.call hb5
   have hs5 := hb5.size
   clear hI hb5 hc2
   go_wp2_with fail
   refine (Climb_any w5 (secretS seed leaf k) leaf k 0 (((dgt d k).val : Nat) : Int) (secretS_len _ _ _)).mono ?_
   rintro e w6 ⟨rfl, hb6⟩
   have hI6 := hI5.call hb6
   have hs6 := hb6.size
   clear hI5 hb6
   rw [show climbS (secretS seed leaf k) leaf k 0 (((dgt d k).val : Nat) : Int) = signF seed leaf d k from rfl]
   generalize signF seed leaf d k = x at *
   go_wp2_with (first | (refine wl_lit1 els_half rfl _ rfl (x.map bv) rfl (by rw [List.length_map, h16b.out]) (by decide) ?_) | (at_builtin; refine wl_app_at els_half (hI6.alloc _) 0 rfl (.tmp 18) (.tmp 27) rfl B4 _ _ _ _ rfl rfl (w6.heap.size + 1) _ 1 1 (x.map bv) rfl (Rd.lit w6 (x.map bv).toArray _ 1 (by rw [List.size_toArray, List.length_map, h16b.out])) (bv_one _) (by omega) (by simp; omega) (by intro g hg _; simp [Apart, Res.apart, Low.rd] <;> omega) ?_; intro A7 c7 w7 hI7 hs7))
   refine ⟨⟨k + 1, A7, c7, by omega, by go_num, rfl, ?_, by first | omega | (simp at hs7; omega)⟩, by simp [intOf]; omega⟩
   rw [hM.out, ← hvs_snoc]
   exact hI7
  ·obtain rfl : k = 68 := by omega
   rw [List.take_of_length_le (by rw [list68_len]; omega)] at hI
   go_wp2
   go_ret
   exact ⟨A', c', rfl, Go.Adm.Own.less hI.1 (by omega), (hI.at_ 3 rfl).1⟩

set_option maxRecDepth 100000 in
set_option maxHeartbeats 3200000 in
theorem refSign_any (w : World) (seed : List UInt8) (leaf : Int) (d : List UInt8) (hs : seed.length = 16) (hd : d.length = 32) :
  Calls Try.prog 72 #[.agg (seed.map bv).toArray, .int .i64 leaf, .agg (d.map bv).toArray] w (SignPost seed leaf d 41 w) := by
 have hR : All w [.kept w w.heap.size] := ⟨⟨Below.refl _ _, Nat.le_refl _⟩, trivial⟩
 have hsl := Lib.hid hs
 have hdl := Lib.hid hd
 go_enter Try.func72, Try.ntmps72
 go_upto_region 1 with (fail)
 refine wp_gen ((hR.new (l := seed.map bv) _ 41 rfl rfl).new (l := d.map bv) _ 37 (g := w.heap.size + 1) (by simp) rfl) ?_
 intro W hW
 have hltW : w.heap.size + 1 < W.heap.size := Cells.lt (hW.at_ 0 rfl)
 clear hs hd
 go_wp2_with (refine wl_load_at rfl 37 (.tmp 5) rfl (w.heap.size + 1) _ _ (hW.at_ 0 rfl) rfl _ Try.underlying37 rfl (by rw [List.length_map, hdl.out]; kernel_rfl) ?_)
 refine (refDigits_any W d hdl.out).mono ?_
 rintro e w4 ⟨A4, c4, rfl, hc4, hm4, hrd4, hb4⟩
 obtain ⟨B4, hB4⟩ : ∃ B, B = w4.heap.size := ⟨_, rfl⟩
 have hI4 : All w4 [.own B4 41 16 none 0 0 (hvs ((list68 (signF seed leaf d)).take 0)).flatten, .cells w.heap.size 41 (seed.map bv), .low (.rd B4 1 A4 68 ((digitsS d).map fv)), .kept w w.heap.size] := ⟨Go.Adm.Own.nil _ _ _ _, (hW.call hb4).2.1, ⟨by rw [hB4]; exact hrd4, Nat.le_of_eq hB4⟩, (hW.call hb4).2.2.1, trivial⟩
 have hs4 := hb4.size
 have hBw : B4 ≤ w4.heap.size := Nat.le_of_eq hB4
 have hBg : w.heap.size + 2 ≤ B4 := by omega
 clear hW hrd4 hb4 hB4 hm4 hc4
 go_wp2
 go_loopw [8, 9] (fun v i wr => ∃ (k : Nat) (A' : Option Addr) (c' : Nat), k ≤ 68 ∧ i = .int .i64 k ∧ v = .slice A' k c' ∧ All wr [.own B4 41 16 A' k c' (hvs ((list68 (signF seed leaf d)).take k)).flatten, .cells w.heap.size 41 (seed.map bv), .low (.rd B4 1 A4 68 ((digitsS d).map fv)), .kept w w.heap.size] ∧ B4 ≤ wr.heap.size) (fun _ i _ => 68 - (intOf i).toNat)
 case atStart => exact ⟨0, none, 0, by omega, rfl, rfl, hI4, by omega⟩
 case round =>
  obtain ⟨k, A', c', hk, rfl, rfl, hI, hsz⟩ := hrel
  by_cases hlt : k < 68
  ·have hM := Lib.hid (list68_succ (signF seed leaf d) k hlt)
   obtain ⟨ad, u, rfl, _, hu, hc⟩ := Rd.cell (hI.2.2.1.1 : Rd wr B4 1 _ 68 _) hlt
   rw [dgt_at d hdl.out k hlt] at hu
   obtain rfl := Option.some.inj hu
   have hc2 : wr.cell? (ad.add k) = some (.int .i64 (((dgt d k).val : Nat) : Int)) := hc
   have hx := (dgt d k).isLt
   have h16b := Lib.hid (signF_len seed leaf d k)
   clear hc hu
   have HC2 : Hid (∀ W, All W [.own B4 41 16 A' k c' (hvs ((list68 (signF seed leaf d)).take k)).flatten, .cells w.heap.size 41 (seed.map bv), .low (.rd B4 1 (some ad) 68 ((digitsS d).map fv)), .kept w w.heap.size] → W.cell? (ad.add k) = some (.int .i64 (((dgt d k).val : Nat) : Int))) := Lib.hid (fun W hW => by
    obtain ⟨ad2, u, he, _, hu2, hc⟩ := Rd.cell (hW.2.2.1.1 : Rd W B4 1 _ 68 _) hlt
    injection he with he; subst he
    rw [dgt_at d hdl.out k hlt] at hu2
    obtain rfl := Option.some.inj hu2
    exact hc)
   have hki : (0 : Int) ≤ (k : Int) := by omega
   have hki2 : (k : Int) < 68 := by omega
   go_wp2
   refine wp_region_hops 13 [16, 17, 18, 19, 20, 21, 22, 23, 24, 25, 26, 27, 28] _
    [.eq (.slice A' k c'), .eq (.agg (seed.map bv).toArray), .eq (.int .i64 leaf), .eq (.int .i64 k), .eq (.agg ((secretS seed leaf k).map bv).toArray), .eq (.int .i64 leaf), .eq (.int .i64 k), .eq (.slice (some ad) 68 c4), .eq (.int .i64 k), .eq (.pointer (some (ad.add k))), .eq (.int .i64 (((dgt d k).val : Nat) : Int)), .eq (.agg ((signF seed leaf d k).map bv).toArray), .rd 16 1 ((signF seed leaf d k).map bv)]
    (by kernel_rfl) (by kernel_rfl) hI rfl ?hops ?fin
   case hops =>
    refine ⟨?_, ?_, ?_, ?_, ?_, ?_, ?_, ?_, ?_, ?_, ?_, ?_, ?_, trivial⟩
    ·intro a W hW hb hd K hK
     have b8 := hb 8 rfl
     go_simp
     exact hK _ _ (World.grownBy.refl _ _) rfl
    ·intro a W hW hb hd K hK
     have b3 := hb 3 rfl
     refine wp_load_mid 41 (.tmp 3) rfl w.heap.size 0 (by simp [Act.eval, b3]) (seed.map bv) _ (Cells.range (hW.at_ 1 rfl)) Try.underlying41 rfl (by rw [List.length_map, hsl.out]; kernel_rfl) ?_
     exact hK _ _ (World.grownBy.refl _ _) rfl
    ·intro a W hW hb hd K hK
     have b1 := hb 1 rfl
     go_simp
     exact hK _ _ (World.grownBy.refl _ _) rfl
    ·intro a W hW hb hd K hK
     have b9 := hb 9 rfl
     go_simp
     exact hK _ _ (World.grownBy.refl _ _) rfl
    ·intro a W hW hb hd K hK
     have b17 : a.tmps[17]?.getD undef = _ := hd ⟨1, .data⟩ (by simp) rfl
     have b18 : a.tmps[18]?.getD undef = _ := hd ⟨2, .data⟩ (by simp) rfl
     have b19 : a.tmps[19]?.getD undef = _ := hd ⟨3, .data⟩ (by simp) rfl
     go_simp
     refine (refSecret_any W seed leaf k hsl.out).mono ?_
     rintro e w' ⟨rfl, hb'⟩
     exact hK _ _ (grown_of_below hb') rfl
    ·intro a W hW hb hd K hK
     have b1 := hb 1 rfl
     go_simp
     exact hK _ _ (World.grownBy.refl _ _) rfl
    ·intro a W hW hb hd K hK
     have b9 := hb 9 rfl
     go_simp
     exact hK _ _ (World.grownBy.refl _ _) rfl
    ·intro a W hW hb hd K hK
     have b7 := hb 7 rfl
     go_simp
     exact hK _ _ (World.grownBy.refl _ _) rfl
    ·intro a W hW hb hd K hK
     have b9 := hb 9 rfl
     go_simp
     exact hK _ _ (World.grownBy.refl _ _) rfl
    ·intro a W hW hb hd K hK
     have b23 : a.tmps[23]?.getD undef = _ := hd ⟨7, .data⟩ (by simp) rfl
     have b24 : a.tmps[24]?.getD undef = _ := hd ⟨8, .data⟩ (by simp) rfl
     go_simp
     exact hK _ _ (World.grownBy.refl _ _) rfl
    ·intro a W hW hb hd K hK
     have b25 : a.tmps[25]?.getD undef = _ := hd ⟨9, .data⟩ (by simp) rfl
     have hc3 : W.cell? (ad.add k) = some (.int .i64 (((dgt d k).val : Nat) : Int)) := HC2.out W hW
     go_simp
     exact hK _ _ (World.grownBy.refl _ _) rfl
    ·intro a W hW hb hd K hK
     have b20 : a.tmps[20]?.getD undef = _ := hd ⟨4, .data⟩ (by simp) rfl
     have b21 : a.tmps[21]?.getD undef = _ := hd ⟨5, .data⟩ (by simp) rfl
     have b22 : a.tmps[22]?.getD undef = _ := hd ⟨6, .data⟩ (by simp) rfl
     have b26 : a.tmps[26]?.getD undef = _ := hd ⟨10, .data⟩ (by simp) rfl
     go_simp
     refine (refClimb_any W (secretS seed leaf k) leaf k 0 (((dgt d k).val : Nat) : Int) (secretS_len _ _ _)).mono ?_
     rintro e w' ⟨rfl, hb'⟩
     exact hK _ _ (grown_of_below hb') rfl
    ·intro a W hW hb hd K hK
     have b27 : a.tmps[27]?.getD undef = _ := hd ⟨11, .data⟩ (by simp) rfl
     refine wp_lit1 els_half (.tmp 27) rfl ((signF seed leaf d k).map bv) (by simp [Act.eval, b27]) (by rw [List.length_map, h16b.out]) (by decide) ?_
     exact hK _ _ (grown_alloc _ _) ⟨_, _, rfl, (Rd.lit W ((signF seed leaf d k).map bv).toArray _ 1 (by rw [List.size_toArray, List.length_map, h16b.out])).mono (by simp)⟩
   case fin =>
    intro vs W hW hv
    have e0 : vs 0 = _ := hv 0 (by decide)
    obtain ⟨A6, c6, e12, hr6⟩ : ∃ A c, vs 12 = .slice A 1 c ∧ Rd W W.heap.size 16 A 1 ((signF seed leaf d k).map bv) := hv 12 (by decide)
    have hsW : B4 ≤ W.heap.size := (hW.2.2.1.2 : B4 ≤ W.heap.size)
    clear hv hI HC2 hc2
    simp only [putAll, List.drop_succ_cons, List.drop_zero, e0, e12, Act.put, List.setIfInBounds_toArray, List.set_cons_succ, List.set_cons_zero]
    clear e0 e12
    generalize signF seed leaf d k = x at *
    refine wl_app_at els_half hW 0 rfl (.tmp 16) (.tmp 28) rfl B4 _ _ _ _ rfl rfl W.heap.size _ 1 _ (x.map bv) rfl hr6 (bv_one _) (by omega) hsW (by intro g hg _; simp [Apart, Res.apart, Low.rd] <;> omega) ?_
    intro A7 c7 w7 hI7 hs7
    go_wp2
    refine ⟨⟨k + 1, A7, c7, by omega, by go_num, rfl, ?_, by first | omega | (simp at hs7; omega)⟩, by simp [intOf]; omega⟩
    rw [hM.out, ← hvs_snoc]
    exact hI7
  ·obtain rfl : k = 68 := by omega
   rw [List.take_of_length_le (by rw [list68_len]; omega)] at hI
   go_wp2
   go_ret
   exact ⟨A', c', rfl, Go.Adm.Own.less hI.1 (by omega), (hI.at_ 3 rfl).1⟩

end Go.Proofs.Ytfakjamocpamiaa
set_option linter.unusedSimpArgs false
set_option linter.unusedVariables false
namespace Go.Proofs.Ytfakjamocpamiaa
open Go Go.RowKit Go.Adm

set_option maxRecDepth 100000 in
set_option maxHeartbeats 3200000 in
theorem Recover_any (w : World) (B : Nat) (A : Option Addr) (c : Nat) (leaf : Int) (d : List UInt8) (sig : List (List UInt8)) (h : Els w B 16 A 68 (hvs sig)) (h16 : ∀ x ∈ sig, x.length = 16) (hd : d.length = 32) (hB : B ≤ w.heap.size) :
  Calls Try.prog 78 #[.int .i64 leaf, .agg (d.map bv).toArray, .slice A 68 c] w fun e w' => e = .returned (.tuple #[.agg ((recS leaf d sig).map bv).toArray, .bool true]) ∧ Below w.heap.size w w' := by
 have hsg : sig.length = 68 := by have := h.len; rwa [hvs_len] at this
 have hR : All w [.low (.els B 16 A 68 (hvs sig)), .kept w w.heap.size] := ⟨⟨h, hB⟩, ⟨Below.refl _ _, Nat.le_refl _⟩, trivial⟩
 have HS := Lib.hid hsg
 have H16 := Lib.hid h16
 have hdl := Lib.hid hd
 clear h hsg h16 hd
 go_enter Try.func78, Try.ntmps78
 go_upto_region 1 with (fail)
 refine wp_gen ((hR.new (l := d.map bv) _ 37 rfl rfl).new (l := List.replicate 16 (Value.int .u8 0)) _ 41 (g := w.heap.size + 1) (by simp) rfl) ?_
 intro W hW
 have hltW : w.heap.size + 1 < W.heap.size := Cells.lt (hW.at_ 0 rfl)
 go_wp2_with (refine wl_load_at rfl 37 (.tmp 4) rfl w.heap.size _ _ (hW.at_ 1 rfl) rfl _ Try.underlying37 rfl (by rw [List.length_map, hdl.out]; kernel_rfl) ?_)
 refine (Digits_any W d hdl.out).mono ?_
 rintro e w4 ⟨A4, c4, rfl, hc4, hm4, hrd4, hb4⟩
 obtain ⟨B4, hB4⟩ : ∃ B, B = w4.heap.size := ⟨_, rfl⟩
 have hI4 : All w4 [.own B4 41 16 none 0 0 (hvs ((list68 (recF leaf d sig)).take 0)).flatten, .cells (w.heap.size + 1) 41 (List.replicate 16 (.int .u8 0)), .cells w.heap.size 37 (d.map bv), .low (.rd B4 1 A4 68 ((digitsS d).map fv)), .low (.els B 16 A 68 (hvs sig)), .kept w w.heap.size] := ⟨Go.Adm.Own.nil _ _ _ _, (hW.call hb4).1, (hW.call hb4).2.1, ⟨by rw [hB4]; exact hrd4, Nat.le_of_eq hB4⟩, (hW.call hb4).2.2.1, (hW.call hb4).2.2.2.1, trivial⟩
 have hs4 := hb4.size
 have hBw : B4 ≤ w4.heap.size := Nat.le_of_eq hB4
 have hBg : w.heap.size + 2 ≤ B4 := by omega
 clear hW hrd4 hb4 hB4 hm4 hc4
 go_wp2
 go_loopw [8, 18] (fun v i wr => ∃ (k : Nat) (A' : Option Addr) (c' : Nat), k ≤ 68 ∧ i = .int .i64 k ∧ v = .slice A' k c' ∧ All wr [.own B4 41 16 A' k c' (hvs ((list68 (recF leaf d sig)).take k)).flatten, .cells (w.heap.size + 1) 41 (List.replicate 16 (.int .u8 0)), .cells w.heap.size 37 (d.map bv), .low (.rd B4 1 A4 68 ((digitsS d).map fv)), .low (.els B 16 A 68 (hvs sig)), .kept w w.heap.size] ∧ B4 ≤ wr.heap.size) (fun _ i _ => 68 - (intOf i).toNat)
 case atStart => exact ⟨0, none, 0, by omega, rfl, rfl, hI4, by omega⟩
 case round =>
  obtain ⟨k, A', c', hk, rfl, rfl, hI, hsz⟩ := hrel
  by_cases hlt : k < 68
  ·have hM := Lib.hid (list68_succ (recF leaf d sig) k hlt)
   obtain ⟨ad, u, rfl, _, hu, hc⟩ := Rd.cell (hI.2.2.2.1.1 : Rd wr B4 1 _ 68 _) hlt
   rw [dgt_at d hdl.out k hlt] at hu
   obtain rfl := Option.some.inj hu
   have hc2 : wr.cell? (ad.add k) = some (.int .i64 (((dgt d k).val : Nat) : Int)) := hc
   have hx := (dgt d k).isLt
   have hks : k < sig.length := by rw [HS.out]; exact hlt
   obtain ⟨aq, rfl, _, hcs⟩ := Els.half (hI.2.2.2.2.1.1 : Els wr B 16 _ 68 (hvs sig)) hks
   have HC := Lib.hid hcs
   have hx16 : Hid (sig[k].length = 16) := Lib.hid (H16.out _ (List.getElem_mem hks))
   have hre : Hid (recF leaf d sig k = climbS sig[k] leaf k (((dgt d k).val : Nat) : Int) 3) := Lib.hid (by simp [recF, List.getD, hks])
   have h16b : Hid ((recF leaf d sig k).length = 16) := Lib.hid (by rw [hre.out]; exact climbS_len _ _ _ _ _ hx16.out)
   clear hc hu hcs
   go_wp2_with (refine wl_load_any rfl 41 (.tmp 26) rfl (aq.add (k * 16)) rfl (sig[k].map bv) _ HC.out Try.underlying41 rfl (by rw [List.length_map, hx16.out]; kernel_rfl) ?_)
   refine (Climb_any wr sig[k] leaf k (((dgt d k).val : Nat) : Int) 3 hx16.out).mono ?_
   rintro e w6 ⟨rfl, hb6⟩
   have hI6 := hI.call hb6
   have hs6 := hb6.size
   clear hI hb6 hc2
   rw [← hre.out]
   generalize recF leaf d sig k = x at *
   go_wp2_with (first | (refine wl_lit1 els_half rfl _ rfl (x.map bv) rfl (by rw [List.length_map, h16b.out]) (by decide) ?_) | (at_builtin; refine wl_app_at els_half (hI6.alloc _) 0 rfl (.tmp 23) (.tmp 32) rfl B4 _ _ _ _ rfl rfl (w6.heap.size + 1) _ 1 1 (x.map bv) rfl (Rd.lit w6 (x.map bv).toArray _ 1 (by rw [List.size_toArray, List.length_map, h16b.out])) (bv_one _) (by omega) (by simp; omega) (by intro g hg _; simp [Apart, Res.apart, Low.rd, Low.els] <;> omega) ?_; intro A7 c7 w7 hI7 hs7))
   refine ⟨⟨k + 1, A7, c7, by omega, by go_num, rfl, ?_, by first | omega | (simp at hs7; omega)⟩, by simp [intOf]; omega⟩
   rw [hM.out, ← hvs_snoc]
   exact hI7
  ·obtain rfl : k = 68 := by omega
   rw [List.take_of_length_le (by rw [list68_len]; omega)] at hI
   have he16 : ∀ x ∈ list68 (recF leaf d sig), x.length = 16 := list68_each _ (fun i hi => by
    have hks : i < sig.length := by rw [HS.out]; exact hi
    rw [show recF leaf d sig i = climbS sig[i] leaf i (((dgt d i).val : Nat) : Int) 3 from by simp [recF, List.getD, hks]]
    exact climbS_len _ _ _ _ _ (H16.out _ (List.getElem_mem hks)))
   have hE : Els wr wr.heap.size 16 A' 68 (hvs (list68 (recF leaf d sig))) := Els.of (hI.1 : Go.Adm.Own wr _ 41 16 A' 68 c' _) (hvs_each he16) (by rw [hvs_len, list68_len])
   have h16 := Lib.hid (recS_len leaf d sig)
   go_wp2_with fail
   refine (Combine_any wr wr.heap.size A' 68 c' leaf _ hE he16 (Nat.le_refl _) (by decide)).mono ?_
   rintro e w5 ⟨rfl, hb⟩
   have hI5 := ((hI.erase 0).erase 2).call hb
   rw [show combineS leaf (list68 (recF leaf d sig)) = recS leaf d sig from rfl]
   generalize hr : recS leaf d sig = r at *
   have HR := Lib.hid hr
   clear hr hb hI hE he16
   go_wp2_with (refine wl_store_at hI5 0 rfl 41 (.tmp 6) _ rfl (w.heap.size + 1) _ _ (r.map bv) rfl rfl rfl (by rw [List.length_map, h16.out]; rfl) (by rw [List.length_map, h16.out]; kernel_rfl) (bv_one _) (by simp [Apart, Res.apart, Low.parts, Low.els, Low.rd] <;> omega) ?_; intro w9 hI9 hs9)
   refine bodyPost_ret (v := .tuple #[.agg (r.map bv).toArray, .bool true]) ?_ rfl ⟨by rw [HR.out], (hI9.at_ 3 rfl).1⟩
   exact results_row_tmp (p := 6) (q := 7) rfl _ _ (w.heap.size + 1) 41 (r.map bv).toArray (0, 0) _ rfl (hI9.at_ 0 rfl) Try.underlying41 rfl (by rw [List.size_toArray, List.length_map, h16.out]; kernel_rfl)

set_option maxRecDepth 100000 in
set_option maxHeartbeats 3200000 in
theorem refRecover_any (w : World) (B : Nat) (A : Option Addr) (c : Nat) (leaf : Int) (d : List UInt8) (sig : List (List UInt8)) (h : Els w B 16 A 68 (hvs sig)) (h16 : ∀ x ∈ sig, x.length = 16) (hd : d.length = 32) (hB : B ≤ w.heap.size) :
  Calls Try.prog 80 #[.int .i64 leaf, .agg (d.map bv).toArray, .slice A 68 c] w fun e w' => e = .returned (.tuple #[.agg ((recS leaf d sig).map bv).toArray, .bool true]) ∧ Below w.heap.size w w' := by
 have hsg : sig.length = 68 := by have := h.len; rwa [hvs_len] at this
 have hR : All w [.low (.els B 16 A 68 (hvs sig)), .kept w w.heap.size] := ⟨⟨h, hB⟩, ⟨Below.refl _ _, Nat.le_refl _⟩, trivial⟩
 have HS := Lib.hid hsg
 have H16 := Lib.hid h16
 have hdl := Lib.hid hd
 clear h hsg h16 hd
 go_enter Try.func80, Try.ntmps80
 go_upto_region 1 with (fail)
 refine wp_gen ((hR.new (l := d.map bv) _ 37 rfl rfl).new (l := List.replicate 16 (Value.int .u8 0)) _ 41 (g := w.heap.size + 1) (by simp) rfl) ?_
 intro W hW
 have hltW : w.heap.size + 1 < W.heap.size := Cells.lt (hW.at_ 0 rfl)
 go_wp2_with (refine wl_load_at rfl 37 (.tmp 4) rfl w.heap.size _ _ (hW.at_ 1 rfl) rfl _ Try.underlying37 rfl (by rw [List.length_map, hdl.out]; kernel_rfl) ?_)
 refine (refDigits_any W d hdl.out).mono ?_
 rintro e w4 ⟨A4, c4, rfl, hc4, hm4, hrd4, hb4⟩
 obtain ⟨B4, hB4⟩ : ∃ B, B = w4.heap.size := ⟨_, rfl⟩
 have hI4 : All w4 [.own B4 41 16 none 0 0 (hvs ((list68 (recF leaf d sig)).take 0)).flatten, .cells (w.heap.size + 1) 41 (List.replicate 16 (.int .u8 0)), .cells w.heap.size 37 (d.map bv), .low (.rd B4 1 A4 68 ((digitsS d).map fv)), .low (.els B 16 A 68 (hvs sig)), .kept w w.heap.size] := ⟨Go.Adm.Own.nil _ _ _ _, (hW.call hb4).1, (hW.call hb4).2.1, ⟨by rw [hB4]; exact hrd4, Nat.le_of_eq hB4⟩, (hW.call hb4).2.2.1, (hW.call hb4).2.2.2.1, trivial⟩
 have hs4 := hb4.size
 have hBw : B4 ≤ w4.heap.size := Nat.le_of_eq hB4
 have hBg : w.heap.size + 2 ≤ B4 := by omega
 clear hW hrd4 hb4 hB4 hm4 hc4
 go_wp2
 go_loopw [9, 10] (fun v i wr => ∃ (k : Nat) (A' : Option Addr) (c' : Nat), k ≤ 68 ∧ i = .int .i64 k ∧ v = .slice A' k c' ∧ All wr [.own B4 41 16 A' k c' (hvs ((list68 (recF leaf d sig)).take k)).flatten, .cells (w.heap.size + 1) 41 (List.replicate 16 (.int .u8 0)), .cells w.heap.size 37 (d.map bv), .low (.rd B4 1 A4 68 ((digitsS d).map fv)), .low (.els B 16 A 68 (hvs sig)), .kept w w.heap.size] ∧ B4 ≤ wr.heap.size) (fun _ i _ => 68 - (intOf i).toNat)
 case atStart => exact ⟨0, none, 0, by omega, rfl, rfl, hI4, by omega⟩
 case round =>
  obtain ⟨k, A', c', hk, rfl, rfl, hI, hsz⟩ := hrel
  by_cases hlt : k < 68
  ·have hM := Lib.hid (list68_succ (recF leaf d sig) k hlt)
   obtain ⟨ad, u, rfl, _, hu, hc⟩ := Rd.cell (hI.2.2.2.1.1 : Rd wr B4 1 _ 68 _) hlt
   rw [dgt_at d hdl.out k hlt] at hu
   obtain rfl := Option.some.inj hu
   have hc2 : wr.cell? (ad.add k) = some (.int .i64 (((dgt d k).val : Nat) : Int)) := hc
   have hx := (dgt d k).isLt
   have hks : k < sig.length := by rw [HS.out]; exact hlt
   obtain ⟨aq, rfl, _, hcs⟩ := Els.half (hI.2.2.2.2.1.1 : Els wr B 16 _ 68 (hvs sig)) hks
   have HC := Lib.hid hcs
   have hx16 : Hid (sig[k].length = 16) := Lib.hid (H16.out _ (List.getElem_mem hks))
   have hre : Hid (recF leaf d sig k = climbS sig[k] leaf k (((dgt d k).val : Nat) : Int) 3) := Lib.hid (by simp [recF, List.getD, hks])
   have h16b : Hid ((recF leaf d sig k).length = 16) := Lib.hid (by rw [hre.out]; exact climbS_len _ _ _ _ _ hx16.out)
   clear hc hu hcs
   have HC3 : Hid (∀ W, All W [.own B4 41 16 A' k c' (hvs ((list68 (recF leaf d sig)).take k)).flatten, .cells (w.heap.size + 1) 41 (List.replicate 16 (.int .u8 0)), .cells w.heap.size 37 (d.map bv), .low (.rd B4 1 (some ad) 68 ((digitsS d).map fv)), .low (.els B 16 (some aq) 68 (hvs sig)), .kept w w.heap.size] → W.cell? (ad.add k) = some (.int .i64 (((dgt d k).val : Nat) : Int))) := Lib.hid (fun W hW => by
    obtain ⟨ad2, u, he, _, hu2, hc⟩ := Rd.cell (hW.2.2.2.1.1 : Rd W B4 1 _ 68 _) hlt
    injection he with he; subst he
    rw [dgt_at d hdl.out k hlt] at hu2
    obtain rfl := Option.some.inj hu2
    exact hc)
   have HC2 : Hid (∀ W, All W [.own B4 41 16 A' k c' (hvs ((list68 (recF leaf d sig)).take k)).flatten, .cells (w.heap.size + 1) 41 (List.replicate 16 (.int .u8 0)), .cells w.heap.size 37 (d.map bv), .low (.rd B4 1 (some ad) 68 ((digitsS d).map fv)), .low (.els B 16 (some aq) 68 (hvs sig)), .kept w w.heap.size] → ∀ j u, (sig[k].map bv)[j]? = some u → W.cell? ((aq.add (k * 16)).add j) = some u) := Lib.hid (fun W hW => by
    obtain ⟨aq2, he, _, hcs⟩ := Els.half (hW.2.2.2.2.1.1 : Els W B 16 _ 68 (hvs sig)) hks
    injection he with he; subst he
    exact hcs)
   have hki : (0 : Int) ≤ (k : Int) := by omega
   have hki2 : (k : Int) < 68 := by omega
   go_wp2
   refine wp_region_hops 13 [21, 22, 23, 24, 25, 26, 27, 28, 29, 30, 31, 32, 33] _
    [.eq (.slice A' k c'), .eq (.slice (some aq) 68 c), .eq (.int .i64 k), .eq (.pointer (some (aq.add (k * 16)))), .eq (.agg (sig[k].map bv).toArray), .eq (.int .i64 leaf), .eq (.int .i64 k), .eq (.slice (some ad) 68 c4), .eq (.int .i64 k), .eq (.pointer (some (ad.add k))), .eq (.int .i64 (((dgt d k).val : Nat) : Int)), .eq (.agg ((recF leaf d sig k).map bv).toArray), .rd 16 1 ((recF leaf d sig k).map bv)]
    (by kernel_rfl) (by kernel_rfl) hI rfl ?hops ?fin
   case hops =>
    refine ⟨?_, ?_, ?_, ?_, ?_, ?_, ?_, ?_, ?_, ?_, ?_, ?_, ?_, trivial⟩
    ·intro a W hW hb hd K hK
     have b9 := hb 9 rfl
     go_simp
     exact hK _ _ (World.grownBy.refl _ _) rfl
    ·intro a W hW hb hd K hK
     have b2 := hb 2 rfl
     go_simp
     exact hK _ _ (World.grownBy.refl _ _) rfl
    ·intro a W hW hb hd K hK
     have b10 := hb 10 rfl
     go_simp
     exact hK _ _ (World.grownBy.refl _ _) rfl
    ·intro a W hW hb hd K hK
     have b22 : a.tmps[22]?.getD undef = _ := hd ⟨1, .data⟩ (by simp) rfl
     have b23 : a.tmps[23]?.getD undef = _ := hd ⟨2, .data⟩ (by simp) rfl
     go_simp
     exact hK _ _ (World.grownBy.refl _ _) rfl
    ·intro a W hW hb hd K hK
     have b24 : a.tmps[24]?.getD undef = _ := hd ⟨3, .data⟩ (by simp) rfl
     refine wp_load_any 41 (.tmp 24) rfl (aq.add (k * 16)) (by simp [Act.eval, b24]) (sig[k].map bv) _ (HC2.out W hW) Try.underlying41 rfl (by rw [List.length_map, hx16.out]; kernel_rfl) ?_
     exact hK _ _ (World.grownBy.refl _ _) rfl
    ·intro a W hW hb hd K hK
     have b0 := hb 0 rfl
     go_simp
     exact hK _ _ (World.grownBy.refl _ _) rfl
    ·intro a W hW hb hd K hK
     have b10 := hb 10 rfl
     go_simp
     exact hK _ _ (World.grownBy.refl _ _) rfl
    ·intro a W hW hb hd K hK
     have b8 := hb 8 rfl
     go_simp
     exact hK _ _ (World.grownBy.refl _ _) rfl
    ·intro a W hW hb hd K hK
     have b10 := hb 10 rfl
     go_simp
     exact hK _ _ (World.grownBy.refl _ _) rfl
    ·intro a W hW hb hd K hK
     have b28 : a.tmps[28]?.getD undef = _ := hd ⟨7, .data⟩ (by simp) rfl
     have b29 : a.tmps[29]?.getD undef = _ := hd ⟨8, .data⟩ (by simp) rfl
     go_simp
     exact hK _ _ (World.grownBy.refl _ _) rfl
    ·intro a W hW hb hd K hK
     have b30 : a.tmps[30]?.getD undef = _ := hd ⟨9, .data⟩ (by simp) rfl
     have hc3 : W.cell? (ad.add k) = some (.int .i64 (((dgt d k).val : Nat) : Int)) := HC3.out W hW
     go_simp
     exact hK _ _ (World.grownBy.refl _ _) rfl
    ·intro a W hW hb hd K hK
     have b25 : a.tmps[25]?.getD undef = _ := hd ⟨4, .data⟩ (by simp) rfl
     have b26 : a.tmps[26]?.getD undef = _ := hd ⟨5, .data⟩ (by simp) rfl
     have b27 : a.tmps[27]?.getD undef = _ := hd ⟨6, .data⟩ (by simp) rfl
     have b31 : a.tmps[31]?.getD undef = _ := hd ⟨10, .data⟩ (by simp) rfl
     go_simp
     refine (refClimb_any W sig[k] leaf k (((dgt d k).val : Nat) : Int) 3 hx16.out).mono ?_
     rintro e w' ⟨rfl, hb'⟩
     rw [← hre.out]
     exact hK _ _ (grown_of_below hb') rfl
    ·intro a W hW hb hd K hK
     have b32 : a.tmps[32]?.getD undef = _ := hd ⟨11, .data⟩ (by simp) rfl
     refine wp_lit1 els_half (.tmp 32) rfl ((recF leaf d sig k).map bv) (by simp [Act.eval, b32]) (by rw [List.length_map, h16b.out]) (by decide) ?_
     exact hK _ _ (grown_alloc _ _) ⟨_, _, rfl, (Rd.lit W ((recF leaf d sig k).map bv).toArray _ 1 (by rw [List.size_toArray, List.length_map, h16b.out])).mono (by simp)⟩
   case fin =>
    intro vs W hW hv
    have e0 : vs 0 = _ := hv 0 (by decide)
    obtain ⟨A6, c6, e12, hr6⟩ : ∃ A c, vs 12 = .slice A 1 c ∧ Rd W W.heap.size 16 A 1 ((recF leaf d sig k).map bv) := hv 12 (by decide)
    have hsW : B4 ≤ W.heap.size := (hW.2.2.2.1.2 : B4 ≤ W.heap.size)
    clear hv hI HC2 HC3 hc2
    simp only [putAll, List.drop_succ_cons, List.drop_zero, e0, e12, Act.put, List.setIfInBounds_toArray, List.set_cons_succ, List.set_cons_zero]
    clear e0 e12
    generalize recF leaf d sig k = x at *
    refine wl_app_at els_half hW 0 rfl (.tmp 21) (.tmp 33) rfl B4 _ _ _ _ rfl rfl W.heap.size _ 1 _ (x.map bv) rfl hr6 (bv_one _) (by omega) hsW (by intro g hg _; simp [Apart, Res.apart, Low.rd, Low.els] <;> omega) ?_
    intro A7 c7 w7 hI7 hs7
    go_wp2
    refine ⟨⟨k + 1, A7, c7, by omega, by go_num, rfl, ?_, by first | omega | (simp at hs7; omega)⟩, by simp [intOf]; omega⟩
    rw [hM.out, ← hvs_snoc]
    exact hI7
  ·obtain rfl : k = 68 := by omega
   rw [List.take_of_length_le (by rw [list68_len]; omega)] at hI
   have he16 : ∀ x ∈ list68 (recF leaf d sig), x.length = 16 := list68_each _ (fun i hi => by
    have hks : i < sig.length := by rw [HS.out]; exact hi
    rw [show recF leaf d sig i = climbS sig[i] leaf i (((dgt d i).val : Nat) : Int) 3 from by simp [recF, List.getD, hks]]
    exact climbS_len _ _ _ _ _ (H16.out _ (List.getElem_mem hks)))
   have hE : Els wr wr.heap.size 16 A' 68 (hvs (list68 (recF leaf d sig))) := Els.of (hI.1 : Go.Adm.Own wr _ 41 16 A' 68 c' _) (hvs_each he16) (by rw [hvs_len, list68_len])
   have h16 := Lib.hid (recS_len leaf d sig)
   go_wp2_with fail
   refine (refCombine_any wr wr.heap.size A' 68 c' leaf _ hE he16 (Nat.le_refl _) (by decide)).mono ?_
   rintro e w5 ⟨rfl, hb⟩
   have hI5 := ((hI.erase 0).erase 2).call hb
   rw [show combineS leaf (list68 (recF leaf d sig)) = recS leaf d sig from rfl]
   generalize hr : recS leaf d sig = r at *
   have HR := Lib.hid hr
   clear hr hb hI hE he16
   go_wp2_with (refine wl_store_at hI5 0 rfl 41 (.tmp 6) _ rfl (w.heap.size + 1) _ _ (r.map bv) rfl rfl rfl (by rw [List.length_map, h16.out]; rfl) (by rw [List.length_map, h16.out]; kernel_rfl) (bv_one _) (by simp [Apart, Res.apart, Low.parts, Low.els, Low.rd] <;> omega) ?_; intro w9 hI9 hs9)
   refine bodyPost_ret (v := .tuple #[.agg (r.map bv).toArray, .bool true]) ?_ rfl ⟨by rw [HR.out], (hI9.at_ 3 rfl).1⟩
   exact results_row_tmp (p := 6) (q := 7) rfl _ _ (w.heap.size + 1) 41 (r.map bv).toArray (0, 0) _ rfl (hI9.at_ 0 rfl) Try.underlying41 rfl (by rw [List.size_toArray, List.length_map, h16.out]; kernel_rfl)

end Go.Proofs.Ytfakjamocpamiaa
set_option linter.unusedSimpArgs false
set_option linter.unusedVariables false
namespace Go.Adm
open Go Go.RowKit
def upF (level : Int) (l : List (List UInt8)) (i : Nat) : List UInt8 := joinS level i (l.getD (2 * i) []) (l.getD (2 * i + 1) [])
def upS (level : Int) (l : List (List UInt8)) : List (List UInt8) := (List.range (l.length / 2)).map (upF level l)
theorem upS_len (level : Int) (l : List (List UInt8)) : (upS level l).length = l.length / 2 := by simp [upS]
theorem upF_len (level : Int) (l : List (List UInt8)) (i : Nat) : (upF level l i).length = 16 := joinS_len _ _ _ _
theorem upS_each (level : Int) (l : List (List UInt8)) : ∀ x ∈ upS level l, x.length = 16 := by
 intro x hx
 obtain ⟨i, _, rfl⟩ := List.mem_map.1 hx
 exact upF_len _ _ _
theorem upS_succ (level : Int) (l : List (List UInt8)) (k : Nat) (hk : k < l.length / 2) : (upS level l).take (k + 1) = (upS level l).take k ++ [upF level l k] := by
 rw [List.take_succ_eq_append_getElem (by rw [upS_len]; exact hk)]
 simp [upS]
def Low.cell (p : Addr) (v : Value) : Low := ⟨p.block + 1, fun w => w.cell? p = some v, fun _ _ hk h => (hk p (Nat.lt_succ_self _)).trans h⟩
def UpPost (level : Int) (l : List (List UInt8)) (tid : TypeId) (w : World) (e : Ending) (w' : World) : Prop := ∃ A c, e = .returned (.slice A (l.length / 2) c) ∧ Go.Adm.Own w' w.heap.size tid 16 A (l.length / 2) c (hvs (upS level l)).flatten ∧ Below w.heap.size w w'
end Go.Adm
namespace Go.Proofs.Ytfakjamocpamiaa
open Go Go.RowKit Go.Adm

set_option maxRecDepth 100000 in
set_option maxHeartbeats 3200000 in
theorem above1_any (w : World) (idx level : Int) (x y : List UInt8) (gb : Nat) (hx : x.length = 16) (hy : y.length = 16) (hc : w.cell? ⟨gb, 0, none⟩ = some (.int .i64 level)) (hgb : gb < w.heap.size) :
  Calls Try.prog 106 #[.int .i64 idx, .agg (x.map bv).toArray, .agg (y.map bv).toArray, .pointer (some ⟨gb, 0, none⟩)] w fun e w' => e = .returned (.agg ((joinS level idx x y).map bv).toArray) ∧ Below w.heap.size w w' := by
 have hR : All w [.low (.cell ⟨gb, 0, none⟩ (.int .i64 level)), .kept w w.heap.size] := ⟨⟨hc, hgb⟩, ⟨Below.refl _ _, Nat.le_refl _⟩, trivial⟩
 have hxl := Lib.hid hx
 have hyl := Lib.hid hy
 have h16 := Lib.hid (joinS_len level idx x y)
 clear hx hy hc
 go_enter Try.func106, Try.ntmps106
 go_upto_region 1 with (fail)
 refine wp_gen (((hR.new (l := x.map bv) _ 41 rfl rfl).new (l := y.map bv) _ 41 (g := w.heap.size + 1) (by simp) rfl).new (l := List.replicate 16 (Value.int .u8 0)) _ 41 (g := w.heap.size + 1 + 1) (by simp) rfl) ?_
 intro W hW
 have hcc : W.cell? ⟨gb, 0, none⟩ = some (.int .i64 level) := hW.2.2.2.1.1
 go_wp2_with (first | (refine wl_load_at rfl 41 (.tmp 5) rfl w.heap.size _ _ (hW.at_ 2 rfl) rfl _ Try.underlying41 rfl (by rw [List.length_map, hxl.out]; kernel_rfl) ?_) | (refine wl_load_at rfl 41 (.tmp 6) rfl (w.heap.size + 1) _ _ (hW.at_ 1 rfl) rfl _ Try.underlying41 rfl (by rw [List.length_map, hyl.out]; kernel_rfl) ?_))
 refine (Join_any W x y level idx hxl.out hyl.out).mono ?_
 rintro e w5 ⟨rfl, hb⟩
 have hI5 := hW.call hb
 generalize hr : joinS level idx x y = r at *
 have HR := Lib.hid hr
 clear hr hb hW hcc
 go_wp2_with (refine wl_store_at hI5 0 rfl 41 (.tmp 7) _ rfl (w.heap.size + 1 + 1) _ _ (r.map bv) rfl rfl rfl (by rw [List.length_map, h16.out]; rfl) (by rw [List.length_map, h16.out]; kernel_rfl) (bv_one _) (by simp [Apart, Res.apart, Low.cell] <;> omega) ?_; intro w9 hI9 hs9)
 refine bodyPost_ret (v := .agg (r.map bv).toArray) ?_ rfl ⟨by rw [HR.out], (hI9.at_ 4 rfl).1⟩
 exact results_cell_row rfl _ _ (w.heap.size + 1 + 1) 41 (r.map bv).toArray (0, 0) _ rfl (hI9.at_ 0 rfl) Try.underlying41 rfl (by rw [List.size_toArray, List.length_map, h16.out]; kernel_rfl)

set_option maxRecDepth 100000 in
set_option maxHeartbeats 3200000 in
theorem raise_any (w : World) (B : Nat) (A : Option Addr) (n c : Nat) (level : Int) (l : List (List UInt8)) (h : Els w B 16 A n (hvs l)) (h16 : ∀ x ∈ l, x.length = 16) (hB : B ≤ w.heap.size) (hn : n ≤ 1000000) (gb : Nat) (hc : w.cell? ⟨gb, 0, none⟩ = some (.int .i64 level)) (hgb : gb < w.heap.size) :
  Calls Try.prog 105 #[.slice A n c, .func (.func 106) #[] #[.pointer (some ⟨gb, 0, none⟩)]] w (UpPost level l 41 w) := by
 have hln : l.length = n := by have := h.len; rwa [hvs_len] at this
 have hI0 : All w [.own w.heap.size 41 16 none 0 0 (hvs ((upS level l).take 0)).flatten, .low (.els B 16 A n (hvs l)), .low (.cell ⟨gb, 0, none⟩ (.int .i64 level)), .kept w w.heap.size] := ⟨Go.Adm.Own.nil _ _ _ _, ⟨h, hB⟩, ⟨hc, hgb⟩, ⟨Below.refl _ _, Nat.le_refl _⟩, trivial⟩
 have HN := Lib.hid hln
 have H16 := Lib.hid h16
 clear h hln h16 hc
 go_enter Try.func105, Try.ntmps105
 go_wp2
 go_loopw [5, 6] (fun v i wr => ∃ (k m : Nat) (A' : Option Addr) (c' : Nat), k ≤ n / 2 ∧ i = .int .i64 m ∧ Hid (m = 2 * k) ∧ m ≤ n ∧ v = .slice A' k c' ∧ All wr [.own w.heap.size 41 16 A' k c' (hvs ((upS level l).take k)).flatten, .low (.els B 16 A n (hvs l)), .low (.cell ⟨gb, 0, none⟩ (.int .i64 level)), .kept w w.heap.size] ∧ w.heap.size ≤ wr.heap.size) (fun _ i _ => n - (intOf i).toNat)
 case atStart => exact ⟨0, 0, none, 0, by omega, rfl, Lib.hid rfl, by omega, rfl, hI0, Nat.le_refl _⟩
 case round =>
  obtain ⟨k, m, A', c', hk, rfl, HM, hm, rfl, hI, hsz⟩ := hrel
  by_cases hlt : m + 1 < n
  ·have hkn : k < l.length / 2 := by have := HN.out; have := HM.out; omega
   have hMS := Lib.hid (upS_succ level l k hkn)
   have h1 : m < l.length := by have := HN.out; omega
   have h2 : m + 1 < l.length := by have := HN.out; omega
   obtain ⟨ad, rfl, _, _⟩ := Els.half (hI.2.1.1 : Els wr B 16 _ n (hvs l)) h1
   have HX : Hid (∀ W, All W [.own w.heap.size 41 16 A' k c' (hvs ((upS level l).take k)).flatten, .low (.els B 16 (some ad) n (hvs l)), .low (.cell ⟨gb, 0, none⟩ (.int .i64 level)), .kept w w.heap.size] → ∀ j u, (l[m].map bv)[j]? = some u → W.cell? ((ad.add (m * 16)).add j) = some u) := Lib.hid (fun W hW => by
    obtain ⟨a2, he, _, hcs⟩ := Els.half (hW.2.1.1 : Els W B 16 _ n (hvs l)) h1
    injection he with he; subst he
    exact hcs)
   have HY : Hid (∀ W, All W [.own w.heap.size 41 16 A' k c' (hvs ((upS level l).take k)).flatten, .low (.els B 16 (some ad) n (hvs l)), .low (.cell ⟨gb, 0, none⟩ (.int .i64 level)), .kept w w.heap.size] → ∀ j u, (l[m + 1].map bv)[j]? = some u → W.cell? ((ad.add ((m + 1) * 16)).add j) = some u) := Lib.hid (fun W hW => by
    obtain ⟨a2, he, _, hcs⟩ := Els.half (hW.2.1.1 : Els W B 16 _ n (hvs l)) h2
    injection he with he; subst he
    exact hcs)
   have hx16 : Hid (l[m].length = 16) := Lib.hid (H16.out _ (List.getElem_mem h1))
   have hy16 : Hid (l[m + 1].length = 16) := Lib.hid (H16.out _ (List.getElem_mem h2))
   have hj : Hid (upF level l k = joinS level ((m : Int) / 2) l[m] l[m + 1]) := Lib.hid (by
    have e1 : 2 * k = m := by have := HM.out; omega
    have e2 : ((m : Int) / 2) = ((k : Nat) : Int) := by have := HM.out; omega
    rw [e2, upF, e1]
    simp [List.getD, h1, h2])
   have h16b := Lib.hid (upF_len level l k)
   generalize l[m] = x at *
   generalize l[m + 1] = y at *
   have hki : (0 : Int) ≤ (m : Int) := by omega
   have hki2 : (m : Int) < (n : Int) := by omega
   have wa : IntKind.i64.wrap ((m : Int) + 1) = (m : Int) + 1 := IntWalk.i64_in _ (by omega)
   have wq : IntKind.i64.wrap ((m : Int) / 2) = (m : Int) / 2 := IntWalk.i64_in _ (by omega)
   have wb : (0 : Int) ≤ (m : Int) + 1 := by omega
   have wc : (m : Int) + 1 < (n : Int) := by omega
   have wd : ((m : Int) + 1).toNat = m + 1 := by omega
   go_wp2
   refine wp_region_hops 15 [14, 15, 16, 17, 18, 19, 20, 21, 22, 23, 24, 25, 26, 27, 28] _
    [.eq (.slice A' k c'), .eq (.func (.func 106) #[] #[.pointer (some ⟨gb, 0, none⟩)]), .eq (.int .i64 m), .eq (.int .i64 ((m : Int) / 2)), .eq (.slice (some ad) n c), .eq (.int .i64 m), .eq (.pointer (some (ad.add (m * 16)))), .eq (.agg (x.map bv).toArray), .eq (.slice (some ad) n c), .eq (.int .i64 m), .eq (.int .i64 ((m : Int) + 1)), .eq (.pointer (some (ad.add ((m + 1) * 16)))), .eq (.agg (y.map bv).toArray), .eq (.agg ((upF level l k).map bv).toArray), .rd 16 1 ((upF level l k).map bv)]
    (by kernel_rfl) (by kernel_rfl) hI rfl ?hops ?fin
   case hops =>
    refine ⟨?_, ?_, ?_, ?_, ?_, ?_, ?_, ?_, ?_, ?_, ?_, ?_, ?_, ?_, ?_, trivial⟩
    ·intro a W hW hb hd K hK
     have b5 := hb 5 rfl
     go_simp
     exact hK _ _ (World.grownBy.refl _ _) rfl
    ·intro a W hW hb hd K hK
     have b1 := hb 1 rfl
     go_simp
     exact hK _ _ (World.grownBy.refl _ _) rfl
    ·intro a W hW hb hd K hK
     have b6 := hb 6 rfl
     go_simp
     exact hK _ _ (World.grownBy.refl _ _) rfl
    ·intro a W hW hb hd K hK
     have b16 : a.tmps[16]?.getD undef = _ := hd ⟨2, .data⟩ (by simp) rfl
     go_simp
     exact hK _ _ (World.grownBy.refl _ _) rfl
    ·intro a W hW hb hd K hK
     have b0 := hb 0 rfl
     go_simp
     exact hK _ _ (World.grownBy.refl _ _) rfl
    ·intro a W hW hb hd K hK
     have b6 := hb 6 rfl
     go_simp
     exact hK _ _ (World.grownBy.refl _ _) rfl
    ·intro a W hW hb hd K hK
     have b18 : a.tmps[18]?.getD undef = _ := hd ⟨4, .data⟩ (by simp) rfl
     have b19 : a.tmps[19]?.getD undef = _ := hd ⟨5, .data⟩ (by simp) rfl
     go_simp
     exact hK _ _ (World.grownBy.refl _ _) rfl
    ·intro a W hW hb hd K hK
     have b20 : a.tmps[20]?.getD undef = _ := hd ⟨6, .data⟩ (by simp) rfl
     refine wp_load_any 41 (.tmp 20) rfl (ad.add (m * 16)) (by simp [Act.eval, b20]) (x.map bv) _ (HX.out W hW) Try.underlying41 rfl (by rw [List.length_map, hx16.out]; kernel_rfl) ?_
     exact hK _ _ (World.grownBy.refl _ _) rfl
    ·intro a W hW hb hd K hK
     have b0 := hb 0 rfl
     go_simp
     exact hK _ _ (World.grownBy.refl _ _) rfl
    ·intro a W hW hb hd K hK
     have b6 := hb 6 rfl
     go_simp
     exact hK _ _ (World.grownBy.refl _ _) rfl
    ·intro a W hW hb hd K hK
     have b23 : a.tmps[23]?.getD undef = _ := hd ⟨9, .data⟩ (by simp) rfl
     go_simp
     exact hK _ _ (World.grownBy.refl _ _) rfl
    ·intro a W hW hb hd K hK
     have b22 : a.tmps[22]?.getD undef = _ := hd ⟨8, .data⟩ (by simp) rfl
     have b24 : a.tmps[24]?.getD undef = _ := hd ⟨10, .data⟩ (by simp) rfl
     go_simp
     exact hK _ _ (World.grownBy.refl _ _) rfl
    ·intro a W hW hb hd K hK
     have b25 : a.tmps[25]?.getD undef = _ := hd ⟨11, .data⟩ (by simp) rfl
     refine wp_load_any 41 (.tmp 25) rfl (ad.add ((m + 1) * 16)) (by simp [Act.eval, b25]) (y.map bv) _ (HY.out W hW) Try.underlying41 rfl (by rw [List.length_map, hy16.out]; kernel_rfl) ?_
     exact hK _ _ (World.grownBy.refl _ _) rfl
    ·intro a W hW hb hd K hK
     have b15 : a.tmps[15]?.getD undef = _ := hd ⟨1, .data⟩ (by simp) rfl
     have b17 : a.tmps[17]?.getD undef = _ := hd ⟨3, .data⟩ (by simp) rfl
     have b21 : a.tmps[21]?.getD undef = _ := hd ⟨7, .data⟩ (by simp) rfl
     have b26 : a.tmps[26]?.getD undef = _ := hd ⟨12, .data⟩ (by simp) rfl
     go_simp
     refine (above1_any W ((m : Int) / 2) level x y gb hx16.out hy16.out (hW.2.2.1.1) (Nat.lt_of_succ_le hW.2.2.1.2)).mono ?_
     rintro e w' ⟨rfl, hb'⟩
     exact hK _ _ (grown_of_below hb') (by rw [← hj.out]; exact rfl)
    ·intro a W hW hb hd K hK
     have b27 : a.tmps[27]?.getD undef = _ := hd ⟨13, .data⟩ (by simp) rfl
     refine wp_lit1 els_half (.tmp 27) rfl ((upF level l k).map bv) (by simp [Act.eval, b27]) (by rw [List.length_map, h16b.out]) (by decide) ?_
     exact hK _ _ (grown_alloc _ _) ⟨_, _, rfl, (Rd.lit W ((upF level l k).map bv).toArray _ 1 (by rw [List.size_toArray, List.length_map, h16b.out])).mono (by simp)⟩
   case fin =>
    clear wa wq
    intro vs W hW hv
    have e0 : vs 0 = _ := hv 0 (by decide)
    obtain ⟨A6, c6, e14, hr6⟩ : ∃ A c, vs 14 = .slice A 1 c ∧ Rd W W.heap.size 16 A 1 ((upF level l k).map bv) := hv 14 (by decide)
    have hsW : w.heap.size ≤ W.heap.size := (hW.at_ 3 rfl : Res.ok W (.kept w w.heap.size)).2
    clear hv hI HX HY
    simp only [putAll, List.drop_succ_cons, List.drop_zero, e0, e14, Act.put, List.setIfInBounds_toArray, List.set_cons_succ, List.set_cons_zero]
    clear e0 e14
    generalize upF level l k = z at *
    refine wl_app_at els_half hW 0 rfl (.tmp 14) (.tmp 28) rfl w.heap.size _ _ _ _ rfl rfl W.heap.size _ 1 _ (z.map bv) rfl hr6 (bv_one _) (by omega) hsW (by intro g hg _; simp [Apart, Res.apart, Low.els, Low.cell] <;> omega) ?_
    intro A7 c7 w7 hI7 hs7
    go_wp2
    refine ⟨⟨k + 1, m + 2, A7, c7, by have := HM.out; omega, by go_num, Lib.hid (by have := HM.out; omega), by omega, rfl, ?_, by first | omega | (simp at hs7; omega)⟩, by simp [intOf]; omega⟩
    rw [hMS.out, ← hvs_snoc]
    exact hI7
  ·have hkn : k = l.length / 2 := by have := HN.out; have := HM.out; omega
   have hI2 := (hI.1 : Go.Adm.Own wr _ 41 16 A' k c' _)
   rw [List.take_of_length_le (by rw [upS_len]; omega)] at hI2
   have hkp := (hI.at_ 3 rfl : Res.ok wr (.kept w w.heap.size)).1
   have HK := Lib.hid hkn
   clear hI hI0 hkn
   go_wp2
   go_ret
   exact ⟨A', c', by rw [HK.out]; rfl, by rw [← HK.out]; exact hI2, hkp⟩

set_option maxRecDepth 100000 in
set_option maxHeartbeats 3200000 in
theorem up_any (w : World) (B : Nat) (A : Option Addr) (n c : Nat) (level : Int) (l : List (List UInt8)) (h : Els w B 16 A n (hvs l)) (h16 : ∀ x ∈ l, x.length = 16) (hB : B ≤ w.heap.size) (hn : n ≤ 1000000) :
  Calls Try.prog 74 #[.int .i64 level, .slice A n c] w (UpPost level l 41 w) := by
 have hln : l.length = n := by have := h.len; rwa [hvs_len] at this
 have hI0 : All w [.own w.heap.size 41 16 none 0 0 (hvs ((upS level l).take 0)).flatten, .low (.els B 16 A n (hvs l)), .kept w w.heap.size] := ⟨Go.Adm.Own.nil _ _ _ _, ⟨h, hB⟩, ⟨Below.refl _ _, Nat.le_refl _⟩, trivial⟩
 have HN := Lib.hid hln
 have H16 := Lib.hid h16
 clear h hln h16
 go_enter Try.func74, Try.ntmps74
 go_wp2
 go_loopw [5, 6] (fun v i wr => ∃ (k m : Nat) (A' : Option Addr) (c' : Nat), k ≤ n / 2 ∧ i = .int .i64 m ∧ Hid (m = 2 * k) ∧ m ≤ n ∧ v = .slice A' k c' ∧ All wr [.own w.heap.size 41 16 A' k c' (hvs ((upS level l).take k)).flatten, .low (.els B 16 A n (hvs l)), .kept w w.heap.size] ∧ w.heap.size ≤ wr.heap.size) (fun _ i _ => n - (intOf i).toNat)
 case atStart => exact ⟨0, 0, none, 0, by omega, rfl, Lib.hid rfl, by omega, rfl, hI0, Nat.le_refl _⟩
 case round =>
  obtain ⟨k, m, A', c', hk, rfl, HM, hm, rfl, hI, hsz⟩ := hrel
  by_cases hlt : m + 1 < n
  ·have hkn : k < l.length / 2 := by have := HN.out; have := HM.out; omega
   have hMS := Lib.hid (upS_succ level l k hkn)
   have h1 : m < l.length := by have := HN.out; omega
   have h2 : m + 1 < l.length := by have := HN.out; omega
   obtain ⟨ad, rfl, _, _⟩ := Els.half (hI.2.1.1 : Els wr B 16 _ n (hvs l)) h1
   have HX : Hid (∀ W, All W [.own w.heap.size 41 16 A' k c' (hvs ((upS level l).take k)).flatten, .low (.els B 16 (some ad) n (hvs l)), .kept w w.heap.size] → ∀ j u, (l[m].map bv)[j]? = some u → W.cell? ((ad.add (m * 16)).add j) = some u) := Lib.hid (fun W hW => by
    obtain ⟨a2, he, _, hcs⟩ := Els.half (hW.2.1.1 : Els W B 16 _ n (hvs l)) h1
    injection he with he; subst he
    exact hcs)
   have HY : Hid (∀ W, All W [.own w.heap.size 41 16 A' k c' (hvs ((upS level l).take k)).flatten, .low (.els B 16 (some ad) n (hvs l)), .kept w w.heap.size] → ∀ j u, (l[m + 1].map bv)[j]? = some u → W.cell? ((ad.add ((m + 1) * 16)).add j) = some u) := Lib.hid (fun W hW => by
    obtain ⟨a2, he, _, hcs⟩ := Els.half (hW.2.1.1 : Els W B 16 _ n (hvs l)) h2
    injection he with he; subst he
    exact hcs)
   have hx16 : Hid (l[m].length = 16) := Lib.hid (H16.out _ (List.getElem_mem h1))
   have hy16 : Hid (l[m + 1].length = 16) := Lib.hid (H16.out _ (List.getElem_mem h2))
   have hj : Hid (upF level l k = joinS level ((m : Int) / 2) l[m] l[m + 1]) := Lib.hid (by
    have e1 : 2 * k = m := by have := HM.out; omega
    have e2 : ((m : Int) / 2) = ((k : Nat) : Int) := by have := HM.out; omega
    rw [e2, upF, e1]
    simp [List.getD, h1, h2])
   have h16b := Lib.hid (upF_len level l k)
   generalize l[m] = x at *
   generalize l[m + 1] = y at *
   have hki : (0 : Int) ≤ (m : Int) := by omega
   have hki2 : (m : Int) < (n : Int) := by omega
   have wa : IntKind.i64.wrap ((m : Int) + 1) = (m : Int) + 1 := IntWalk.i64_in _ (by omega)
   have wq : IntKind.i64.wrap ((m : Int) / 2) = (m : Int) / 2 := IntWalk.i64_in _ (by omega)
   have wb : (0 : Int) ≤ (m : Int) + 1 := by omega
   have wc : (m : Int) + 1 < (n : Int) := by omega
   have wd : ((m : Int) + 1).toNat = m + 1 := by omega
   go_wp2
   refine wp_region_hops 15 [14, 15, 16, 17, 18, 19, 20, 21, 22, 23, 24, 25, 26, 27, 28] _
    [.eq (.slice A' k c'), .eq (.int .i64 level), .eq (.int .i64 m), .eq (.int .i64 ((m : Int) / 2)), .eq (.slice (some ad) n c), .eq (.int .i64 m), .eq (.pointer (some (ad.add (m * 16)))), .eq (.agg (x.map bv).toArray), .eq (.slice (some ad) n c), .eq (.int .i64 m), .eq (.int .i64 ((m : Int) + 1)), .eq (.pointer (some (ad.add ((m + 1) * 16)))), .eq (.agg (y.map bv).toArray), .eq (.agg ((upF level l k).map bv).toArray), .rd 16 1 ((upF level l k).map bv)]
    (by kernel_rfl) (by kernel_rfl) hI rfl ?hops ?fin
   case hops =>
    refine ⟨?_, ?_, ?_, ?_, ?_, ?_, ?_, ?_, ?_, ?_, ?_, ?_, ?_, ?_, ?_, trivial⟩
    ·intro a W hW hb hd K hK
     have b5 := hb 5 rfl
     go_simp
     exact hK _ _ (World.grownBy.refl _ _) rfl
    ·intro a W hW hb hd K hK
     have b0 := hb 0 rfl
     go_simp
     exact hK _ _ (World.grownBy.refl _ _) rfl
    ·intro a W hW hb hd K hK
     have b6 := hb 6 rfl
     go_simp
     exact hK _ _ (World.grownBy.refl _ _) rfl
    ·intro a W hW hb hd K hK
     have b16 : a.tmps[16]?.getD undef = _ := hd ⟨2, .data⟩ (by simp) rfl
     go_simp
     exact hK _ _ (World.grownBy.refl _ _) rfl
    ·intro a W hW hb hd K hK
     have b1 := hb 1 rfl
     go_simp
     exact hK _ _ (World.grownBy.refl _ _) rfl
    ·intro a W hW hb hd K hK
     have b6 := hb 6 rfl
     go_simp
     exact hK _ _ (World.grownBy.refl _ _) rfl
    ·intro a W hW hb hd K hK
     have b18 : a.tmps[18]?.getD undef = _ := hd ⟨4, .data⟩ (by simp) rfl
     have b19 : a.tmps[19]?.getD undef = _ := hd ⟨5, .data⟩ (by simp) rfl
     go_simp
     exact hK _ _ (World.grownBy.refl _ _) rfl
    ·intro a W hW hb hd K hK
     have b20 : a.tmps[20]?.getD undef = _ := hd ⟨6, .data⟩ (by simp) rfl
     refine wp_load_any 41 (.tmp 20) rfl (ad.add (m * 16)) (by simp [Act.eval, b20]) (x.map bv) _ (HX.out W hW) Try.underlying41 rfl (by rw [List.length_map, hx16.out]; kernel_rfl) ?_
     exact hK _ _ (World.grownBy.refl _ _) rfl
    ·intro a W hW hb hd K hK
     have b1 := hb 1 rfl
     go_simp
     exact hK _ _ (World.grownBy.refl _ _) rfl
    ·intro a W hW hb hd K hK
     have b6 := hb 6 rfl
     go_simp
     exact hK _ _ (World.grownBy.refl _ _) rfl
    ·intro a W hW hb hd K hK
     have b23 : a.tmps[23]?.getD undef = _ := hd ⟨9, .data⟩ (by simp) rfl
     go_simp
     exact hK _ _ (World.grownBy.refl _ _) rfl
    ·intro a W hW hb hd K hK
     have b22 : a.tmps[22]?.getD undef = _ := hd ⟨8, .data⟩ (by simp) rfl
     have b24 : a.tmps[24]?.getD undef = _ := hd ⟨10, .data⟩ (by simp) rfl
     go_simp
     exact hK _ _ (World.grownBy.refl _ _) rfl
    ·intro a W hW hb hd K hK
     have b25 : a.tmps[25]?.getD undef = _ := hd ⟨11, .data⟩ (by simp) rfl
     refine wp_load_any 41 (.tmp 25) rfl (ad.add ((m + 1) * 16)) (by simp [Act.eval, b25]) (y.map bv) _ (HY.out W hW) Try.underlying41 rfl (by rw [List.length_map, hy16.out]; kernel_rfl) ?_
     exact hK _ _ (World.grownBy.refl _ _) rfl
    ·intro a W hW hb hd K hK
     have b15 : a.tmps[15]?.getD undef = _ := hd ⟨1, .data⟩ (by simp) rfl
     have b17 : a.tmps[17]?.getD undef = _ := hd ⟨3, .data⟩ (by simp) rfl
     have b21 : a.tmps[21]?.getD undef = _ := hd ⟨7, .data⟩ (by simp) rfl
     have b26 : a.tmps[26]?.getD undef = _ := hd ⟨12, .data⟩ (by simp) rfl
     go_simp
     refine (refJoin_any W x y level ((m : Int) / 2) hx16.out hy16.out).mono ?_
     rintro e w' ⟨rfl, hb'⟩
     exact hK _ _ (grown_of_below hb') (by rw [← hj.out]; exact rfl)
    ·intro a W hW hb hd K hK
     have b27 : a.tmps[27]?.getD undef = _ := hd ⟨13, .data⟩ (by simp) rfl
     refine wp_lit1 els_half (.tmp 27) rfl ((upF level l k).map bv) (by simp [Act.eval, b27]) (by rw [List.length_map, h16b.out]) (by decide) ?_
     exact hK _ _ (grown_alloc _ _) ⟨_, _, rfl, (Rd.lit W ((upF level l k).map bv).toArray _ 1 (by rw [List.size_toArray, List.length_map, h16b.out])).mono (by simp)⟩
   case fin =>
    clear wa wq
    intro vs W hW hv
    have e0 : vs 0 = _ := hv 0 (by decide)
    obtain ⟨A6, c6, e14, hr6⟩ : ∃ A c, vs 14 = .slice A 1 c ∧ Rd W W.heap.size 16 A 1 ((upF level l k).map bv) := hv 14 (by decide)
    have hsW : w.heap.size ≤ W.heap.size := (hW.at_ 2 rfl : Res.ok W (.kept w w.heap.size)).2
    clear hv hI HX HY
    simp only [putAll, List.drop_succ_cons, List.drop_zero, e0, e14, Act.put, List.setIfInBounds_toArray, List.set_cons_succ, List.set_cons_zero]
    clear e0 e14
    generalize upF level l k = z at *
    refine wl_app_at els_half hW 0 rfl (.tmp 14) (.tmp 28) rfl w.heap.size _ _ _ _ rfl rfl W.heap.size _ 1 _ (z.map bv) rfl hr6 (bv_one _) (by omega) hsW (by intro g hg _; simp [Apart, Res.apart, Low.els, Low.cell] <;> omega) ?_
    intro A7 c7 w7 hI7 hs7
    go_wp2
    refine ⟨⟨k + 1, m + 2, A7, c7, by have := HM.out; omega, by go_num, Lib.hid (by have := HM.out; omega), by omega, rfl, ?_, by first | omega | (simp at hs7; omega)⟩, by simp [intOf]; omega⟩
    rw [hMS.out, ← hvs_snoc]
    exact hI7
  ·have hkn : k = l.length / 2 := by have := HN.out; have := HM.out; omega
   have hI2 := (hI.1 : Go.Adm.Own wr _ 41 16 A' k c' _)
   rw [List.take_of_length_le (by rw [upS_len]; omega)] at hI2
   have hkp := (hI.at_ 2 rfl : Res.ok wr (.kept w w.heap.size)).1
   have HK := Lib.hid hkn
   clear hI hI0 hkn
   go_wp2
   go_ret
   exact ⟨A', c', by rw [HK.out]; rfl, by rw [← HK.out]; exact hI2, hkp⟩

end Go.Proofs.Ytfakjamocpamiaa
set_option linter.unusedSimpArgs false
set_option linter.unusedVariables false
namespace Go.Adm
open Go Go.RowKit
def leavesS (seed : List UInt8) (h : Nat) : List (List UInt8) := (List.range (2 ^ h)).map fun (i : Nat) => publicS seed i
theorem leavesS_len (seed : List UInt8) (h : Nat) : (leavesS seed h).length = 2 ^ h := by simp [leavesS]
theorem leavesS_each (seed : List UInt8) (h : Nat) : ∀ x ∈ leavesS seed h, x.length = 16 := by
 intro x hx
 obtain ⟨i, _, rfl⟩ := List.mem_map.1 hx
 exact publicS_len _ _
theorem leavesS_succ (seed : List UInt8) (h k : Nat) (hk : k < 2 ^ h) : (leavesS seed h).take (k + 1) = (leavesS seed h).take k ++ [publicS seed k] := by
 rw [List.take_succ_eq_append_getElem (by rw [leavesS_len]; exact hk)]
 simp [leavesS]
theorem pow_le64 (h : Nat) (hh : h ≤ 6) : 1 ≤ 2 ^ h ∧ 2 ^ h ≤ 64 := by
 have : h = 0 ∨ h = 1 ∨ h = 2 ∨ h = 3 ∨ h = 4 ∨ h = 5 ∨ h = 6 := by omega
 rcases this with rfl | rfl | rfl | rfl | rfl | rfl | rfl <;> decide
def LeavesPost (seed : List UInt8) (h : Nat) (tid : TypeId) (w : World) (e : Ending) (w' : World) : Prop := ∃ A c, e = .returned (.slice A (2 ^ h) c) ∧ Go.Adm.Own w' w.heap.size tid 16 A (2 ^ h) c (hvs (leavesS seed h)).flatten ∧ Below w.heap.size w w'
end Go.Adm
namespace Go.Proofs.Ytfakjamocpamiaa
open Go Go.RowKit Go.Adm

set_option maxRecDepth 100000 in
set_option maxHeartbeats 3200000 in
theorem leaves_any (w : World) (seed : List UInt8) (h : Nat) (hs : seed.length = 16) (hh : h ≤ 6) :
  Calls Try.prog 73 #[.agg (seed.map bv).toArray, .int .i64 h] w (LeavesPost seed h 41 w) := by
 have hR : All w [.kept w w.heap.size] := ⟨⟨Below.refl _ _, Nat.le_refl _⟩, trivial⟩
 have hsl := Lib.hid hs
 obtain ⟨hp1, hp2⟩ := pow_le64 h hh
 have hsh : wrap64 ((2 : Int) ^ h) = ((2 ^ h : Nat) : Int) := by
  have e1 : ((2 ^ h : Nat) : Int) = (2 : Int) ^ h := by simp
  have e2 : ((2 ^ h : Nat) : Int) ≤ 64 := by omega
  rw [← e1]
  exact IntWalk.wrap64_in ((2 ^ h : Nat) : Int) ⟨by omega, by omega⟩
 generalize hN : (2 : Nat) ^ h = N at *
 have HN := Lib.hid hN
 have HL := Lib.hid (leavesS_len seed h)
 rw [hN] at HL
 have HS := Lib.hid (leavesS_succ seed h)
 rw [hN] at HS
 clear hN
 clear hs
 go_enter Try.func73, Try.ntmps73
 go_upto_region 1 with (fail)
 refine wp_gen (hR.new (l := seed.map bv) _ 41 rfl rfl) ?_
 intro W hW
 have hI0 : All W [.own (w.heap.size + 1) 41 16 none 0 0 (hvs ((leavesS seed h).take 0)).flatten, .cells w.heap.size 41 (seed.map bv), .kept w w.heap.size] := ⟨Go.Adm.Own.nil _ _ _ _, hW⟩
 have hlW : w.heap.size < W.heap.size := Cells.lt hW.1
 clear hW
 go_wp2
 go_loopw [5, 6] (fun v i wr => ∃ (k : Nat) (A' : Option Addr) (c' : Nat), k ≤ N ∧ i = .int .i64 k ∧ v = .slice A' k c' ∧ All wr [.own (w.heap.size + 1) 41 16 A' k c' (hvs ((leavesS seed h).take k)).flatten, .cells w.heap.size 41 (seed.map bv), .kept w w.heap.size] ∧ w.heap.size + 1 ≤ wr.heap.size) (fun _ i _ => N - (intOf i).toNat)
 case atStart => exact ⟨0, none, 0, by omega, rfl, rfl, hI0, hlW⟩
 case round =>
  obtain ⟨k, A', c', hk, rfl, rfl, hI, hsz⟩ := hrel
  by_cases hlt : k < N
  ·have hM := Lib.hid (HS.out k hlt)
   have hp := Lib.hid (publicS_len seed k)
   go_wp2_with (refine wl_load_at rfl 41 (.tmp 2) rfl w.heap.size _ _ (hI.at_ 1 rfl) rfl _ Try.underlying41 rfl (by rw [List.length_map, hsl.out]; kernel_rfl) ?_)
   refine (refPublic_any wr seed k hsl.out).mono ?_
   rintro e w6 ⟨rfl, hb6⟩
   have hI6 := hI.call hb6
   have hs6 := hb6.size
   clear hI hb6
   generalize publicS seed k = x at *
   go_wp2_with (first | (refine wl_lit1 els_half rfl _ rfl (x.map bv) rfl (by rw [List.length_map, hp.out]) (by decide) ?_) | (at_builtin; refine wl_app_at els_half (hI6.alloc _) 0 rfl (.tmp 14) (.tmp 18) rfl (w.heap.size + 1) _ _ _ _ rfl rfl (w6.heap.size + 1) _ 1 1 (x.map bv) rfl (Rd.lit w6 (x.map bv).toArray _ 1 (by rw [List.size_toArray, List.length_map, hp.out])) (bv_one _) (by omega) (by simp; omega) (by intro g hg _; simp [Apart, Res.apart] <;> omega) ?_; intro A7 c7 w7 hI7 hs7))
   refine ⟨⟨k + 1, A7, c7, by omega, by go_num, rfl, ?_, by first | omega | (simp at hs7; omega)⟩, by simp [intOf]; omega⟩
   rw [hM.out, ← hvs_snoc]
   exact hI7
  ·obtain rfl : k = N := by omega
   rw [List.take_of_length_le (by rw [HL.out]; omega)] at hI
   go_wp2
   go_ret
   refine ⟨A', c', by rw [HN.out]; rfl, ?_, (hI.at_ 2 rfl).1⟩
   rw [HN.out]
   exact Go.Adm.Own.less hI.1 (by omega)

end Go.Proofs.Ytfakjamocpamiaa
set_option linter.unusedSimpArgs false
set_option linter.unusedVariables false
namespace Go.Adm
open Go Go.RowKit
def lvl (level : Int) (l : List (List UInt8)) : Nat → List (List UInt8)
 | 0 => l
 | k + 1 => upS (level + k) (lvl level l k)
theorem lvl_shift (level : Int) (l : List (List UInt8)) : ∀ k, lvl level l (k + 1) = lvl (level + 1) (upS level l) k
 | 0 => by simp [lvl]
 | k + 1 => by
  rw [lvl, lvl_shift level l k, lvl]
  congr 1
  omega
theorem lvl_len (level : Int) (l : List (List UInt8)) (j : Nat) (h : l.length = 2 ^ j) : ∀ k, k ≤ j → (lvl level l k).length = 2 ^ (j - k)
 | 0, _ => by simpa [lvl] using h
 | k + 1, hk => by
  rw [lvl, upS_len, lvl_len level l j h k (by omega), show j - k = (j - (k + 1)) + 1 from by omega, Nat.pow_succ]
  omega
theorem lvl_each (level : Int) (l : List (List UInt8)) (h : ∀ x ∈ l, x.length = 16) : ∀ k, ∀ x ∈ lvl level l k, x.length = 16
 | 0 => h
 | _ + 1 => upS_each _ _
def lvls (level : Int) (l : List (List UInt8)) (j : Nat) : List (List (List UInt8)) := (List.range (j + 1)).map (lvl level l)
theorem lvls_succ (level : Int) (l : List (List UInt8)) (j : Nat) : lvls level l (j + 1) = l :: lvls (level + 1) (upS level l) j := by
 unfold lvls
 rw [List.range_succ_eq_map, List.map_cons, List.map_map]
 exact congrArg (l :: ·) (List.map_congr_left fun k _ => lvl_shift level l k)
theorem lvls_zero (level : Int) (l : List (List UInt8)) : lvls level l 0 = [l] := rfl
/-- a slice of halves, as a value -/
def LvlAt (w : World) (v : Value) (l : List (List UInt8)) : Prop := ∃ A c, v = .slice A l.length c ∧ Els w w.heap.size 16 A l.length (hvs l)
theorem LvlAt.apart {w w' : World} {row : Option Nat} {A : Option Addr} {n c : Nat} {l : List (List UInt8)} (h : LvlAt w (.slice A n c) l) (hg : w.grownBy w' row) (ha : ∀ ad, A = some ad → row ≠ some ad.block) : LvlAt w' (.slice A n c) l := by
 obtain ⟨A', c', e, h1⟩ := h
 injection e with e1 e2 e3
 subst e1 e2 e3
 refine ⟨_, _, rfl, ⟨⟨h1.rd.len, fun hn => ?_⟩, h1.each, h1.len⟩⟩
 obtain ⟨ad, e, hb, hc⟩ := h1.rd.at_ hn
 refine ⟨ad, e, Nat.lt_of_lt_of_le hb hg.size, fun j u hu => ?_⟩
 rw [World.cell?_of_block (w := w) (hg.block _ (by rw [add_block]; exact hb) (fun e' => ha ad e (by rw [add_block] at e'; exact e'.symm)))]
 exact hc j u hu
theorem All2.imp_mem {α β : Type} {R S : α → β → Prop} {xs : List α} {ys : List β} (h : All2 R xs ys) (hi : ∀ a ∈ xs, ∀ b, R a b → S a b) : All2 S xs ys := by
 induction h with
 | nil => exact .nil
 | cons hr _ ih => exact .cons (hi _ (by simp) _ hr) (ih fun a ha => hi a (by simp [ha]))
theorem one_of_lvl {w : World} {vs : List Value} {ls : List (List (List UInt8))} (h : All2 (LvlAt w) vs ls) : ∀ v ∈ vs, v.oneCell' = true := by
 induction h with
 | nil => intro v hv; simp at hv
 | cons hr _ ih =>
  intro v hv
  rcases List.mem_cons.1 hv with rfl | h
  ·obtain ⟨A, c, rfl, _⟩ := hr; rfl
  ·exact ih v h
structure AboveIs (level : Int) (l : List (List UInt8)) (j : Nat) (v0 : Value) (tid : TypeId) (w w' : World) (A : Option Addr) (c : Nat) (vs : List Value) : Prop where
 own : Go.Adm.Own w' w.heap.size tid 1 A (j + 1) c (v0 :: vs)
 lv : All2 (LvlAt w') (v0 :: vs) (lvls level l j)
 fresh : ∀ v ∈ vs, ∀ A n c, v = .slice A n c → ∀ ad, A = some ad → w.heap.size ≤ ad.block
 kept : Below w.heap.size w w'
def AbovePost (level : Int) (l : List (List UInt8)) (j : Nat) (v0 : Value) (tid : TypeId) (w : World) (e : Ending) (w' : World) : Prop := ∃ A c vs, e = .returned (.slice A (j + 1) c) ∧ AboveIs level l j v0 tid w w' A c vs
end Go.Adm
namespace Go.Proofs.Ytfakjamocpamiaa
open Go Go.RowKit Go.Adm

theorem els_hh : ElemOf Try.prog 113 58 (.slice none 0 0) 1 24 := ElemOf.mk' Try.underlying113 (by kernel_rfl) rfl (by decide) (by decide)
set_option maxRecDepth 100000 in
set_option maxHeartbeats 3200000 in
theorem above_any : ∀ (j : Nat) (level : Int) (w : World) (B : Nat) (A : Option Addr) (n c : Nat) (l : List (List UInt8)) (_ : Els w B 16 A n (hvs l)) (_ : ∀ x ∈ l, x.length = 16) (_ : B ≤ w.heap.size) (_ : n = 2 ^ j) (_ : n ≤ 1000000) (_ : 0 ≤ level) (_ : level + j ≤ 1000),
  Calls Try.prog 92 #[.int .i64 level, .slice A n c] w (AbovePost level l j (.slice A n c) 58 w)
 | 0, level, w, B, A, n, c, l, h, h16, hB, hn, _, h0, h1 => by
  have hln : l.length = n := by have := h.len; rwa [hvs_len] at this
  have hn1 : n < 2 := by omega
  have HN := Lib.hid hn
  have HH := Lib.hid h
  have HLN := Lib.hid hln
  clear h hn hln
  go_enter Try.func92, Try.ntmps92
  go_wp2
  go_ret
  refine ⟨_, 1, [], rfl, ?_, ?_, fun v hv => by simp at hv, ((Below.refl _ _).alloc (Nat.le_refl _) _).alloc (by simp) _⟩
  ·have h2 := Go.Adm.Own.lit (base := w.heap.size) (e := 58) (size := 1) (w.alloc (.cells #[.int .i64 level] 3)) #[.slice A n c] 1 (by simp) (by decide) rfl
   have h3 : (w.alloc (.cells #[.int .i64 level] 3)).heap.size = w.heap.size + 1 := by simp
   rw [h3] at h2
   exact h2
  ·rw [lvls_zero]
   have h4 := HH.out.keep (w' := (w.alloc (.cells #[.int .i64 level] 3)).alloc (.cells #[.slice A n c] 58)) (fun p hp => (World.cell?_alloc_lt _ _ p (by simp; omega)).trans (World.cell?_alloc_lt _ _ p (by omega)))
   exact .cons ⟨A, c, by rw [HLN.out], by rw [HLN.out]; exact h4.mono (by simp; omega)⟩ .nil
 | j + 1, level, w, B, A, n, c, l, h, h16, hB, hn, hnb, h0, h1 => by
  have hln : l.length = n := by have := h.len; rwa [hvs_len] at this
  have hp := Nat.one_le_two_pow (n := j)
  have hn2 : 2 ≤ n := by rw [hn, Nat.pow_succ]; omega
  have HNJ : Hid (n / 2 = 2 ^ j) := Lib.hid (by rw [hn, Nat.pow_succ]; omega)
  have HN := Lib.hid hn
  have H := Lib.hid h
  have HLN := Lib.hid hln
  have H16 := Lib.hid h16
  have hR : All w [.low (.els B 16 A n (hvs l)), .kept w w.heap.size] := ⟨⟨h, hB⟩, ⟨Below.refl _ _, Nat.le_refl _⟩, trivial⟩
  clear h hn hln h16 hp
  go_enter Try.func92, Try.ntmps92
  go_upto_region 4 with (fail)
  have hownL : Go.Adm.Own ((w.alloc (.cells #[.int .i64 level] 3)).alloc (.cells #[.slice A n c] 58)) (w.heap.size + 1) 58 1 (some ⟨w.heap.size + 1, 0, none⟩) 1 1 [.slice A n c] := by
   have h2 := Go.Adm.Own.lit (base := w.heap.size + 1) (e := 58) (size := 1) (w.alloc (.cells #[.int .i64 level] 3)) #[.slice A n c] 1 (by simp) (by decide) rfl
   have h3 : (w.alloc (.cells #[.int .i64 level] 3)).heap.size = w.heap.size + 1 := by simp
   rw [h3] at h2
   exact h2
  have hIa := (hR.new #[.int .i64 level] 3 rfl rfl).alloc (.cells #[.slice A n c] 58)
  refine wp_genP (Pr := fun W => All W [.own (w.heap.size + 1) 58 1 (some ⟨w.heap.size + 1, 0, none⟩) 1 1 [.slice A n c], .cells w.heap.size 3 [.int .i64 level], .low (.els B 16 A n (hvs l)), .kept w w.heap.size] ∧ W.heap.size = w.heap.size + 2) ⟨⟨hownL, hIa⟩, by simp⟩ ?_
  rintro W ⟨hW, hWs⟩
  have HWS := Lib.hid hWs
  have hWl : w.heap.size + 2 ≤ W.heap.size := by omega
  clear hownL hIa hWs hR
  have hcl : W.cell? ⟨w.heap.size, 0, none⟩ = some (.int .i64 level) := Cells.cell (hW.2.1 : Cells W w.heap.size _ _) (i := 0) (by simp)
  go_wp2_with fail
  refine (raise_any W B A n c level l (hW.2.2.1.1 : Els W B 16 A n (hvs l)) H16.out (by omega) hnb w.heap.size hcl (by omega)).mono ?_
  rintro e w5 ⟨A5, c5, rfl, hown5, hb5⟩
  have hI5 := hW.call hb5
  have hs5 := hb5.size
  have hcl5 : w5.cell? ⟨w.heap.size, 0, none⟩ = some (.int .i64 level) := Cells.cell (hI5.2.1 : Cells w5 w.heap.size _ _) (i := 0) (by simp)
  rw [HLN.out] at hown5 ⊢
  have hul : Hid ((upS level l).length = n / 2) := Lib.hid (by rw [upS_len, HLN.out])
  have hE5 : Els w5 w5.heap.size 16 A5 (n / 2) (hvs (upS level l)) := Els.of hown5 (hvs_each (upS_each level l)) (by rw [hvs_len, hul.out])
  have hblk5 : ∀ ad, A5 = some ad → W.heap.size ≤ ad.block := fun ad e => by subst e; exact (hown5.lt rfl).1
  have hn4 : n / 2 ≤ 1000000 := by omega
  generalize hn5 : n / 2 = n5 at *
  have HN5 := Lib.hid hn5
  clear hn5 hW hb5 hcl
  go_wp2_with fail
  refine (above_any j (level + 1) w5 w5.heap.size A5 n5 c5 (upS level l) hE5 (upS_each level l) (Nat.le_refl _) HNJ.out hn4 (by omega) (by omega)).mono ?_
  rintro e w6 ⟨A6, c6, vs6, rfl, hab⟩
  have hI6 := hI5.call hab.kept
  have hs6 := hab.kept.size
  have hnb2 : j + 1 ≤ 2000 := by omega
  clear hI5 hcl5
  go_wp2_with (at_builtin; refine wl_app6 _ els_hh rfl (.tmp 16) (.tmp 20) rfl (w.heap.size + 1) (some ⟨w.heap.size + 1, 0, none⟩) 1 1 _ rfl hI6.1 w6.heap.size A6 (j + 1) c6 _ rfl hab.own.rd (by intro u hu; rcases List.mem_cons.1 hu with rfl | h; exact rfl; exact one_of_lvl hab.lv _ (List.mem_cons_of_mem _ h)) (by omega) (by omega) ?_; intro A7 c7 w7 hown7 hg7 hob7)
  go_ret
  have hkw : Below w.heap.size w w6 := (hI6.at_ 3 rfl).1
  have hk7 : Below w.heap.size w w7 := hkw.grown hg7 (by omega) (fun g hg => by have := (hI6.1.lt hg).1; omega)
  have ho : (Value.slice (some ⟨w.heap.size + 1, 0, none⟩) 1 1).ownBlock = some (w.heap.size + 1) := rfl
  rw [ho] at hg7
  refine ⟨A7, c7, .slice A5 n5 c5 :: vs6, by rw [show j + 1 + 1 = 1 + (j + 1) from by omega]; rfl, ⟨?_, ?_, ?_, hk7⟩⟩
  ·have := Go.Adm.Own.less (base' := w.heap.size) hown7 (by omega)
   rw [show j + 1 + 1 = 1 + (j + 1) from by omega]
   exact this
  ·rw [lvls_succ]
   refine .cons ⟨A, c, by rw [HLN.out], by rw [HLN.out]; exact (H.out.keep (fun p hp => hk7.cell (by omega))).mono (by have := hk7.size; omega)⟩ ?_
   refine hab.lv.imp_mem fun v hv l' hl' => ?_
   obtain ⟨A', c', rfl, _⟩ := id hl'
   refine hl'.apart hg7 fun ad e h => ?_
   injection h with h
   rcases List.mem_cons.1 hv with h2 | h2
   ·injection h2 with h3 _ _
    have := hblk5 ad (by rw [← h3]; exact e)
    omega
   ·have := hab.fresh _ h2 _ _ _ rfl ad e
    omega
  ·intro v hv A' n' c' e ad ea
   rcases List.mem_cons.1 hv with h2 | h2
   ·rw [h2] at e
    injection e with e1 _ _
    have := hblk5 ad (by rw [e1]; exact ea)
    omega
   ·have := hab.fresh _ h2 _ _ _ e ad ea
    omega
end Go.Proofs.Ytfakjamocpamiaa
set_option linter.unusedSimpArgs false
set_option linter.unusedVariables false
namespace Go.Adm
open Go Go.RowKit
def TreePost (seed : List UInt8) (h : Nat) (w : World) (e : Ending) (w' : World) : Prop :=
 ∃ A c vs, e = .returned (.slice A (h + 1) c) ∧ Rd w' w'.heap.size 1 A (h + 1) vs ∧ All2 (LvlAt w') vs (lvls 0 (leavesS seed h) h) ∧ Below w.heap.size w w'
/-- where the levels lie -/
def Fresh (lo : Nat) (A : Option Addr) (vs : List Value) : Prop := (∀ ad, A = some ad → lo ≤ ad.block) ∧ ∀ v ∈ vs, ∀ A n c, v = .slice A n c → ∀ ad, A = some ad → lo ≤ ad.block
def TreePost2 (seed : List UInt8) (h : Nat) (w : World) (e : Ending) (w' : World) : Prop :=
 ∃ A c vs, e = .returned (.slice A (h + 1) c) ∧ Rd w' w'.heap.size 1 A (h + 1) vs ∧ All2 (LvlAt w') vs (lvls 0 (leavesS seed h) h) ∧ Fresh w.heap.size A vs ∧ Below w.heap.size w w'
theorem Own.block_le {w : World} {base size n c : Nat} {e : TypeId} {A : Option Addr} {xs : List Value} (h : Go.Adm.Own w base e size A n c xs) : ∀ ad, A = some ad → base ≤ ad.block := fun ad e => by
 subst e
 exact (h.lt rfl).1
end Go.Adm
namespace Go.Proofs.Ytfakjamocpamiaa
open Go Go.RowKit Go.Adm

set_option maxRecDepth 100000 in
set_option maxHeartbeats 3200000 in
theorem tree_any2 (w : World) (seed : List UInt8) (h : Nat) (hs : seed.length = 16) (hh : h ≤ 6) :
  Calls Try.prog 68 #[.agg (seed.map bv).toArray, .int .i64 h] w (TreePost2 seed h w) := by
 have hR : All w [.kept w w.heap.size] := ⟨⟨Below.refl _ _, Nat.le_refl _⟩, trivial⟩
 have hsl := Lib.hid hs
 obtain ⟨hp1, hp2⟩ := pow_le64 h hh
 have hsh : wrap64 ((2 : Int) ^ h) = ((2 ^ h : Nat) : Int) := by
  have e1 : ((2 ^ h : Nat) : Int) = (2 : Int) ^ h := by simp
  have e2 : ((2 ^ h : Nat) : Int) ≤ 64 := by omega
  rw [← e1]
  exact IntWalk.wrap64_in ((2 ^ h : Nat) : Int) ⟨by omega, by omega⟩
 generalize hN : (2 : Nat) ^ h = N at *
 have HN := Lib.hid hN
 have HL := Lib.hid (leavesS_len seed h)
 rw [hN] at HL
 have HS := Lib.hid (leavesS_succ seed h)
 rw [hN] at HS
 clear hN
 clear hs
 go_enter Try.func68, Try.ntmps68
 go_upto_region 1 with (fail)
 refine wp_gen (hR.new (l := seed.map bv) _ 41 rfl rfl) ?_
 intro W hW
 have hI0 : All W [.own (w.heap.size + 1) 41 16 none 0 0 (hvs ((leavesS seed h).take 0)).flatten, .cells w.heap.size 41 (seed.map bv), .kept w w.heap.size] := ⟨Go.Adm.Own.nil _ _ _ _, hW⟩
 have hlW : w.heap.size < W.heap.size := Cells.lt hW.1
 clear hW
 go_wp2
 rw [hsh]
 go_loopw [5, 9] (fun v i wr => ∃ (k : Nat) (A' : Option Addr) (c' : Nat), k ≤ N ∧ i = .int .i64 k ∧ v = .slice A' k c' ∧ All wr [.own (w.heap.size + 1) 41 16 A' k c' (hvs ((leavesS seed h).take k)).flatten, .cells w.heap.size 41 (seed.map bv), .kept w w.heap.size] ∧ w.heap.size + 1 ≤ wr.heap.size) (fun _ i _ => N - (intOf i).toNat)
 case atStart => exact ⟨0, none, 0, by omega, rfl, rfl, hI0, hlW⟩
 case round =>
  obtain ⟨k, A', c', hk, rfl, rfl, hI, hsz⟩ := hrel
  by_cases hlt : k < N
  ·have hM := Lib.hid (HS.out k hlt)
   have hp := Lib.hid (publicS_len seed k)
   go_wp2_with (refine wl_load_at rfl 41 (.tmp 2) rfl w.heap.size _ _ (hI.at_ 1 rfl) rfl _ Try.underlying41 rfl (by rw [List.length_map, hsl.out]; kernel_rfl) ?_)
   refine (Public_any wr seed k hsl.out).mono ?_
   rintro e w6 ⟨rfl, hb6⟩
   have hI6 := hI.call hb6
   have hs6 := hb6.size
   clear hI hb6
   generalize publicS seed k = x at *
   go_wp2_with (first | (refine wl_lit1 els_half rfl _ rfl (x.map bv) rfl (by rw [List.length_map, hp.out]) (by decide) ?_) | (at_builtin; refine wl_app_at els_half (hI6.alloc _) 0 rfl (.tmp 12) (.tmp 16) rfl (w.heap.size + 1) _ _ _ _ rfl rfl (w6.heap.size + 1) _ 1 1 (x.map bv) rfl (Rd.lit w6 (x.map bv).toArray _ 1 (by rw [List.size_toArray, List.length_map, hp.out])) (bv_one _) (by omega) (by simp; omega) (by intro g hg _; simp [Apart, Res.apart] <;> omega) ?_; intro A7 c7 w7 hI7 hs7))
   refine ⟨⟨k + 1, A7, c7, by omega, by go_num, rfl, ?_, by first | omega | (simp at hs7; omega)⟩, by simp [intOf]; omega⟩
   rw [hM.out, ← hvs_snoc]
   exact hI7
  ·obtain rfl : k = N := by omega
   rw [List.take_of_length_le (by rw [HL.out]; omega)] at hI
   have hE : Els wr wr.heap.size 16 A' k (hvs (leavesS seed h)) := Els.of (hI.1 : Go.Adm.Own wr _ 41 16 A' k c' _) (hvs_each (leavesS_each seed h)) (by rw [hvs_len, HL.out])
   have hk2 := (hI.at_ 2 rfl).1
   have hlw := (hI.at_ 2 rfl).2
   have hfl := Go.Adm.Own.block_le hI.1
   go_wp2_with fail
   refine (above_any h 0 wr wr.heap.size A' k c' (leavesS seed h) hE (leavesS_each seed h) (Nat.le_refl _) HN.out.symm (by omega) (by decide) (by omega)).mono ?_
   rintro e w6 ⟨A6, c6, vs6, rfl, hab⟩
   go_wp2
   go_ret
   refine ⟨A6, c6, _, rfl, hab.own.rd, hab.lv, ⟨fun ad e => Nat.le_trans hlw (hab.own.block_le ad e), fun v hv A n c e ad ea => ?_⟩, hk2.trans (hab.kept.mono hlw)⟩
   rcases List.mem_cons.1 hv with h2 | h2
   ·rw [h2] at e
    injection e with e1 _ _
    have := hfl ad (by rw [e1]; exact ea)
    omega
   ·have := hab.fresh _ h2 _ _ _ e ad ea
    omega

theorem tree_any (w : World) (seed : List UInt8) (h : Nat) (hs : seed.length = 16) (hh : h ≤ 6) :
  Calls Try.prog 68 #[.agg (seed.map bv).toArray, .int .i64 h] w (TreePost seed h w) :=
 (tree_any2 w seed h hs hh).mono fun _ _ ⟨A, c, vs, e, h1, h2, _, h4⟩ => ⟨A, c, vs, e, h1, h2, h4⟩

end Go.Proofs.Ytfakjamocpamiaa
set_option linter.unusedSimpArgs false
set_option linter.unusedVariables false
namespace Go.Adm
open Go Go.RowKit
def hOk (n : Int) : Bool := decide (0 ≤ n) && decide (n ≤ 6)
theorem hOk_iff (n : Int) : hOk n = true ↔ 0 ≤ n ∧ n ≤ 6 := by simp [hOk]
def rootS (seed : List UInt8) (h : Nat) : List UInt8 := (lvl 0 (leavesS seed h) h).getD 0 []
theorem root_len1 (seed : List UInt8) (h k : Nat) (hk : k ≤ h) : (lvl 0 (leavesS seed h) k).length = 2 ^ (h - k) := lvl_len 0 _ h (leavesS_len seed h) k hk
theorem root_at (seed : List UInt8) (h : Nat) (hl : 0 < (lvl 0 (leavesS seed h) h).length) : (lvl 0 (leavesS seed h) h)[0] = rootS seed h := by simp [rootS, List.getD, hl]
theorem rootS_len (seed : List UInt8) (h : Nat) : (rootS seed h).length = 16 := by
 have h1 := root_len1 seed h h (Nat.le_refl _)
 rw [Nat.sub_self] at h1
 rw [← root_at seed h (by omega)]
 exact lvl_each 0 _ (leavesS_each seed h) h _ (List.getElem_mem _)
theorem pk_one (h : Int) (r : List UInt8) : ∀ v ∈ pkCells h r, v.oneCell' = true := by
 intro v hv
 rcases List.mem_cons.1 hv with rfl | hv
 ·rfl
 ·exact bv_one r v hv
theorem pk_len (h : Int) (r : List UInt8) (hr : r.length = 16) : (pkCells h r).length = 17 := by simp [pkCells, hr]
theorem fill_pk (h : Int) (r : List UInt8) (hr : r.length = 16) : Instr.fill (#[(0, 1), (1, 16)][·]?) (Value.int .i64 0 :: List.replicate 16 (Value.int .u8 0)).toArray [(0, .int .i64 h), (1, .agg (r.map bv).toArray)] = some (pkCells h r).toArray := by
 refine (fill_step (off := 0) (size := 1) (es := [.int .i64 h]) (pre := []) (old := [.int .i64 0]) (post := List.replicate 16 (Value.int .u8 0)) rfl rfl rfl rfl rfl rfl).trans ?_
 refine (fill_step (off := 1) (size := 16) (es := r.map bv) (pre := [.int .i64 h]) (old := List.replicate 16 (Value.int .u8 0)) (post := []) rfl (by simp) rfl (by simp) rfl (by simp [hr])).trans ?_
 simp [Instr.fill, pkCells]
end Go.Adm
namespace Go.Proofs.Ytfakjamocpamiaa
open Go Go.RowKit Go.Adm

theorem height_any (w : World) (n : Int) : Calls Try.prog 66 #[.int .i64 n] w fun e w' => e = .returned (.bool (hOk n)) ∧ w = w' := by
 by_cases h1 : 0 ≤ n
 ·by_cases h2 : n ≤ 6
  ·have d1 : decide (0 ≤ n) = true := by simpa using h1
   have d2 : decide (n ≤ 6) = true := by simpa using h2
   have hx : Hid (hOk n = true) := Lib.hid ((hOk_iff n).2 ⟨h1, h2⟩)
   go_enter Try.func66, Try.ntmps66
   go_wp2
   go_ret
   exact ⟨by rw [hx.out]; rfl, rfl⟩
  ·have d1 : decide (0 ≤ n) = true := by simpa using h1
   have d2 : decide (n ≤ 6) = false := by simpa using h2
   have hx : Hid (hOk n = false) := Lib.hid (by cases hq : hOk n with | false => rfl | true => exact absurd ((hOk_iff n).1 hq).2 h2)
   go_enter Try.func66, Try.ntmps66
   go_wp2
   go_ret
   exact ⟨by rw [hx.out]; rfl, rfl⟩
 ·have d1 : decide (0 ≤ n) = false := by simpa using h1
  have hx : Hid (hOk n = false) := Lib.hid (by cases hq : hOk n with | false => rfl | true => exact absurd ((hOk_iff n).1 hq).1 h1)
  go_enter Try.func66, Try.ntmps66
  go_wp2
  go_ret
  exact ⟨by rw [hx.out]; rfl, rfl⟩
theorem zero_pk (W : World) : (zeroValue 62).run Try.prog W = .ok (.agg (Value.int .i64 0 :: List.replicate 16 (Value.int .u8 0)).toArray) W := by kernel_rfl
set_option maxRecDepth 100000 in
set_option maxHeartbeats 3200000 in
theorem New_any (w : World) (seed : List UInt8) (h : Nat) (hs : seed.length = 16) (hh : h ≤ 6) :
  Calls Try.prog 40 #[.agg (seed.map bv).toArray, .int .i64 h] w fun e w' => e = .returned (.tuple #[.agg (pkCells h (rootS seed h)).toArray, .int .i64 0]) ∧ Below w.heap.size w w' := by
 have hR : All w [.kept w w.heap.size] := ⟨⟨Below.refl _ _, Nat.le_refl _⟩, trivial⟩
 have hsl := Lib.hid hs
 have hx : Hid (hOk h = true) := Lib.hid ((hOk_iff _).2 ⟨by omega, by omega⟩)
 clear hs
 go_enter Try.func40, Try.ntmps40
 go_upto_region 1 with (fail)
 refine wp_gen ((hR.new (l := seed.map bv) _ 41 rfl rfl).new (l := (Value.int .i64 0 :: List.replicate 16 (Value.int .u8 0))) _ 62 (g := w.heap.size + 1) (by simp) rfl) ?_
 intro W hW
 go_wp2_with fail
 refine (height_any W h).mono ?_
 rintro e w' ⟨rfl, rfl⟩
 rw [hx.out]
 go_wp2_with (refine wl_load_at rfl 41 (.tmp 2) rfl w.heap.size _ _ (hW.at_ 1 rfl) rfl _ Try.underlying41 rfl (by rw [List.length_map, hsl.out]; kernel_rfl) ?_)
 refine (tree_any W seed h hsl.out hh).mono ?_
 rintro e w4 ⟨A4, c4, vs, rfl, hrd, hlv, hb4⟩
 have hI4 := hW.call hb4
 have hlvl : h < (lvls 0 (leavesS seed h) h).length := by simp [lvls]
 obtain ⟨u, hu, A5, c5, rfl, hE⟩ := hlv.at_ hlvl
 have hle : (lvls 0 (leavesS seed h) h)[h] = lvl 0 (leavesS seed h) h := by simp [lvls]
 have hl1 : (lvl 0 (leavesS seed h) h).length = 1 := by have := root_len1 seed h h (Nat.le_refl _); simpa using this
 rw [hle] at hE hu
 rw [hl1] at hE hu
 obtain ⟨ad, u2, rfl, _, hu2, hc⟩ := Rd.cell hrd (k := h) (by omega)
 rw [hu] at hu2
 obtain rfl := Option.some.inj hu2
 obtain ⟨ad5, rfl, _, hc5⟩ := Els.half (k := 0) hE (by rw [hl1]; omega)
 rw [root_at seed h (by rw [hl1]; omega)] at hc5
 rw [Nat.zero_mul, Go.Adm.add_zero] at hc5
 have HC5 := Lib.hid hc5
 have hr16 := Lib.hid (rootS_len seed h)
 have hhi : (0 : Int) ≤ (h : Int) := by omega
 have hhi2 : (h : Int) < (h : Int) + 1 := by omega
 have HFP := Lib.hid (fill_pk h (rootS seed h) hr16.out)
 clear hu hrd hlv hE hle hl1 hlvl hW hb4 hc5
 generalize hr : rootS seed h = r at *
 have HR := Lib.hid hr
 clear hr
 go_wp2_with (first | (refine wl_load_any rfl 41 (.tmp 17) rfl ad5 rfl (r.map bv) _ HC5.out Try.underlying41 rfl (by rw [List.length_map, hr16.out]; kernel_rfl) ?_) | (refine wl_build rfl 62 [(0, .tmp 10), (1, .tmp 18)] rfl _ _ #[(0, 1), (1, 16)] (pkCells h r).toArray zero_pk Try.underlying62 (fun w => by kernel_rfl) HFP.out ?_) | (refine wl_store_at hI4 0 rfl 62 (.tmp 4) _ rfl (w.heap.size + 1) _ _ (pkCells h r) rfl rfl rfl (by rw [pk_len _ _ hr16.out]; rfl) (by rw [pk_len _ _ hr16.out]; kernel_rfl) (pk_one _ _) (by simp [Apart, Res.apart, Low.parts, Low.els, Low.rd] <;> omega) ?_; intro w9 hI9 hs9))
 refine bodyPost_ret (v := .tuple #[.agg (pkCells h r).toArray, .int .i64 0]) ?_ rfl ⟨by rw [HR.out], (hI9.at_ 2 rfl).1⟩
 exact results_row_tmp (p := 4) (q := 5) rfl _ _ (w.heap.size + 1) 62 (pkCells h r).toArray (0, 0) _ rfl (hI9.at_ 0 rfl) Try.underlying62 rfl (by rw [List.size_toArray, pk_len _ _ hr16.out]; kernel_rfl)

set_option maxRecDepth 100000 in
set_option maxHeartbeats 3200000 in
theorem refNew_any (w : World) (seed : List UInt8) (h : Nat) (hs : seed.length = 16) (hh : h ≤ 6) :
  Calls Try.prog 45 #[.agg (seed.map bv).toArray, .int .i64 h] w fun e w' => e = .returned (.tuple #[.agg (pkCells h (rootS seed h)).toArray, .int .i64 0]) ∧ Below w.heap.size w w' := by
 have hR : All w [.kept w w.heap.size] := ⟨⟨Below.refl _ _, Nat.le_refl _⟩, trivial⟩
 have hsl := Lib.hid hs
 have d1 : decide ((h : Int) < 0) = false := by simp
 have d2 : decide ((6 : Int) < (h : Int)) = false := by simp; omega
 clear hs
 go_enter Try.func45, Try.ntmps45
 go_upto_region 1 with (fail)
 refine wp_gen ((hR.new (l := seed.map bv) _ 41 rfl rfl).new (l := (Value.int .i64 0 :: List.replicate 16 (Value.int .u8 0))) _ 62 (g := w.heap.size + 1) (by simp) rfl) ?_
 intro W hW
 go_wp2_with (refine wl_load_at rfl 41 (.tmp 2) rfl w.heap.size _ _ (hW.at_ 1 rfl) rfl _ Try.underlying41 rfl (by rw [List.length_map, hsl.out]; kernel_rfl) ?_)
 refine (leaves_any W seed h hsl.out hh).mono ?_
 rintro e w4 ⟨A4, c4, rfl, hown4, hb4⟩
 have hI4 : All w4 [.cells (w.heap.size + 1) 62 (Value.int .i64 0 :: List.replicate 16 (Value.int .u8 0)), .cells w.heap.size 41 (seed.map bv), .low (.els w4.heap.size 16 A4 (2 ^ h) (hvs (lvl 0 (leavesS seed h) 0))), .kept w w.heap.size] := ⟨(hW.call hb4).1, (hW.call hb4).2.1, ⟨Els.of hown4 (hvs_each (leavesS_each seed h)) (by rw [hvs_len]; exact leavesS_len seed h), Nat.le_refl _⟩, (hW.call hb4).2.2⟩
 have hp64 := pow_le64 h hh
 clear hW hown4 hb4 d1 d2
 generalize hN : 2 ^ h = N at *
 have HN := Lib.hid hN
 clear hN
 go_wp2
 go_loopw [6, 7] (fun v i wr => ∃ (k n B : Nat) (A' : Option Addr) (c' : Nat), k ≤ h ∧ i = .int .i64 k ∧ Hid (n = 2 ^ (h - k)) ∧ n ≤ 64 ∧ v = .slice A' n c' ∧ All wr [.cells (w.heap.size + 1) 62 (Value.int .i64 0 :: List.replicate 16 (Value.int .u8 0)), .cells w.heap.size 41 (seed.map bv), .low (.els B 16 A' n (hvs (lvl 0 (leavesS seed h) k))), .kept w w.heap.size]) (fun _ i _ => h - (intOf i).toNat)
 case atStart => exact ⟨0, N, w4.heap.size, A4, c4, by omega, rfl, Lib.hid (by rw [Nat.sub_zero]; exact HN.out.symm), by omega, rfl, hI4⟩
 case round =>
  obtain ⟨k, n, B, A', c', hk, rfl, HM, hn, rfl, hI⟩ := hrel
  by_cases hlt : k < h
  ·have hlen := Lib.hid (root_len1 seed h k (by omega))
   go_wp2_with fail
   refine (up_any wr B A' n c' k (lvl 0 (leavesS seed h) k) hI.2.2.1.1 (lvl_each 0 _ (leavesS_each seed h) k) hI.2.2.1.2 (by omega)).mono ?_
   rintro e w5 ⟨A5, c5, rfl, hown5, hb5⟩
   have hI5 := hI.call hb5
   have hl2 : Hid ((lvl 0 (leavesS seed h) k).length / 2 = 2 ^ (h - (k + 1))) := Lib.hid (by rw [hlen.out, show h - k = (h - (k + 1)) + 1 from by omega, Nat.pow_succ]; omega)
   have hl3 : (lvl 0 (leavesS seed h) k).length / 2 ≤ 64 := by have := hlen.out; have := HM.out; omega
   have hlv : Hid (upS (k : Int) (lvl 0 (leavesS seed h) k) = lvl 0 (leavesS seed h) (k + 1)) := Lib.hid (by rw [lvl]; simp)
   have hE5 : Els w5 w5.heap.size 16 A5 ((lvl 0 (leavesS seed h) k).length / 2) (hvs (lvl 0 (leavesS seed h) (k + 1))) := by
    rw [← hlv.out]
    exact Els.of hown5 (hvs_each (upS_each _ _)) (by rw [hvs_len, upS_len])
   clear hI hown5 hb5
   generalize (lvl 0 (leavesS seed h) k).length / 2 = n5 at *
   go_wp2
   refine ⟨⟨k + 1, n5, w5.heap.size, A5, c5, by omega, by go_num, Lib.hid hl2.out, hl3, rfl, hI5.1, hI5.2.1, ⟨hE5, Nat.le_refl _⟩, hI5.2.2.2⟩, by simp [intOf]; omega⟩
  ·have hkh : k = h := by omega
   have hn1 : n = 1 := by have := HM.out; rw [hkh, Nat.sub_self] at this; exact this
   rw [hkh, hn1] at hI
   have hl1 : (lvl 0 (leavesS seed h) h).length = 1 := by have := root_len1 seed h h (Nat.le_refl _); simpa using this
   obtain ⟨ad5, rfl, _, hc5⟩ := Els.half (k := 0) (hI.2.2.1.1 : Els wr B 16 _ 1 (hvs (lvl 0 (leavesS seed h) h))) (by rw [hl1]; omega)
   rw [root_at seed h (by rw [hl1]; omega), Nat.zero_mul, Go.Adm.add_zero] at hc5
   have HC5 := Lib.hid hc5
   have hr16 := Lib.hid (rootS_len seed h)
   have HFP := Lib.hid (fill_pk h (rootS seed h) hr16.out)
   have hI6 : All wr [.cells (w.heap.size + 1) 62 (Value.int .i64 0 :: List.replicate 16 (Value.int .u8 0)), .cells w.heap.size 41 (seed.map bv), .kept w w.heap.size] := ⟨hI.1, hI.2.1, hI.2.2.2⟩
   have HKH := Lib.hid hkh
   subst hn1
   clear hc5 hl1 hI hkh
   generalize hr : rootS seed h = r at *
   have HR := Lib.hid hr
   clear hr
   go_wp2_with (first | (refine wl_load_any rfl 41 (.tmp 28) rfl ad5 rfl (r.map bv) _ HC5.out Try.underlying41 rfl (by rw [List.length_map, hr16.out]; kernel_rfl) ?_) | (refine wl_build rfl 62 [(0, .tmp 26), (1, .tmp 29)] rfl _ _ #[(0, 1), (1, 16)] (pkCells h r).toArray zero_pk Try.underlying62 (fun w => by kernel_rfl) HFP.out ?_) | (refine wl_store_at hI6 0 rfl 62 (.tmp 4) _ rfl (w.heap.size + 1) _ _ (pkCells h r) rfl rfl rfl (by rw [pk_len _ _ hr16.out]; rfl) (by rw [pk_len _ _ hr16.out]; kernel_rfl) (pk_one _ _) (by simp [Apart, Res.apart, Low.parts, Low.els, Low.rd] <;> omega) ?_; intro w9 hI9 hs9))
   refine bodyPost_ret (v := .tuple #[.agg (pkCells h r).toArray, .int .i64 0]) ?_ rfl ⟨by rw [HR.out], (hI9.at_ 2 rfl).1⟩
   exact results_row_tmp (p := 4) (q := 5) rfl _ _ (w.heap.size + 1) 62 (pkCells h r).toArray (0, 0) _ rfl (hI9.at_ 0 rfl) Try.underlying62 rfl (by rw [List.size_toArray, pk_len _ _ hr16.out]; kernel_rfl)

end Go.Proofs.Ytfakjamocpamiaa
set_option linter.unusedSimpArgs false
set_option linter.unusedVariables false
namespace Go.Proofs.Ytfakjamocpamiaa
open Go Go.RowKit Go.Adm

theorem Valid_any (w : World) (h : Int) (r : List UInt8) : Calls Try.prog 52 #[.agg (pkCells h r).toArray] w fun e w' => e = .returned (.bool (hOk h)) ∧ w' = w.alloc (.cells (pkCells h r).toArray 62) := by
 have cc : (w.alloc (.cells (pkCells h r).toArray 62)).cell? ⟨w.heap.size, 0, none⟩ = some (.int .i64 h) := Cells.cell (Cells.new' w 62 (pkCells h r).toArray rfl rfl) (i := 0) (by simp [pkCells])
 go_enter Try.func52, Try.ntmps52
 go_wp2_with fail
 refine (height_any _ h).mono ?_
 rintro e w' ⟨rfl, rfl⟩
 go_wp2
 go_ret
 exact ⟨rfl, rfl⟩
theorem refValid_any (w : World) (h : Int) (r : List UInt8) : Calls Try.prog 54 #[.agg (pkCells h r).toArray] w fun e w' => e = .returned (.bool (hOk h)) ∧ w' = w.alloc (.cells (pkCells h r).toArray 62) := by
 have cc : (w.alloc (.cells (pkCells h r).toArray 62)).cell? ⟨w.heap.size, 0, none⟩ = some (.int .i64 h) := Cells.cell (Cells.new' w 62 (pkCells h r).toArray rfl rfl) (i := 0) (by simp [pkCells])
 by_cases h1 : 0 ≤ h
 ·by_cases h2 : h ≤ 6
  ·have d1 : decide (0 ≤ h) = true := by simpa using h1
   have d2 : decide (h ≤ 6) = true := by simpa using h2
   have hx : Hid (hOk h = true) := Lib.hid ((hOk_iff h).2 ⟨h1, h2⟩)
   go_enter Try.func54, Try.ntmps54
   go_wp2
   go_ret
   exact ⟨by rw [hx.out]; rfl, rfl⟩
  ·have d1 : decide (0 ≤ h) = true := by simpa using h1
   have d2 : decide (h ≤ 6) = false := by simpa using h2
   have hx : Hid (hOk h = false) := Lib.hid (by cases hq : hOk h with | false => rfl | true => exact absurd ((hOk_iff h).1 hq).2 h2)
   go_enter Try.func54, Try.ntmps54
   go_wp2
   go_ret
   exact ⟨by rw [hx.out]; rfl, rfl⟩
 ·have d1 : decide (0 ≤ h) = false := by simpa using h1
  have hx : Hid (hOk h = false) := Lib.hid (by cases hq : hOk h with | false => rfl | true => exact absurd ((hOk_iff h).1 hq).1 h1)
  go_enter Try.func54, Try.ntmps54
  go_wp2
  go_ret
  exact ⟨by rw [hx.out]; rfl, rfl⟩
end Go.Proofs.Ytfakjamocpamiaa

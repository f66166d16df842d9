/- The levels of a tree. -/
import Derived.Test.YtlnbeglelhdjfaaKey8
set_option linter.unusedSimpArgs false
set_option linter.unusedVariables false
namespace Go.Adm
open Go Go.RowKit
def upF (level : Int) (l : List (List UInt8)) (i : Nat) : List UInt8 := joinS level i (l.getD (2 * i) []) (l.getD (2 * i + 1) [])
def upS (level : Int) (l : List (List UInt8)) : List (List UInt8) := (List.range (l.length / 2)).map (upF level l)
theorem upS_len (level : Int) (l : List (List UInt8)) : (upS level l).length = l.length / 2 := by simp [upS]
theorem upF_len (level : Int) (l : List (List UInt8)) (i : Nat) : (upF level l i).length = 16 := joinS_len _ _ _ _
theorem upS_each (level : Int) (l : List (List UInt8)) : ∀ x ∈ upS level l, x.length = 16 := by
  intro x hx
  obtain ⟨i, _, rfl⟩ := List.mem_map.1 hx
  exact upF_len _ _ _
theorem upS_succ (level : Int) (l : List (List UInt8)) (k : Nat) (hk : k < l.length / 2) : (upS level l).take (k + 1) = (upS level l).take k ++ [upF level l k] := by
  rw [List.take_succ_eq_append_getElem (by rw [upS_len]; exact hk)]
  simp [upS]
def Low.cell (p : Addr) (v : Value) : Low := ⟨p.block + 1, fun w => w.cell? p = some v, fun _ _ hk h => (hk p (Nat.lt_succ_self _)).trans h⟩
def UpPost (level : Int) (l : List (List UInt8)) (tid : TypeId) (w : World) (e : Ending) (w' : World) : Prop := ∃ A c, e = .returned (.slice A (l.length / 2) c) ∧ Go.Adm.Own w' w.heap.size tid 16 A (l.length / 2) c (hvs (upS level l)).flatten ∧ Below w.heap.size w w'
end Go.Adm
namespace Go.Proofs.Ytlnbeglelhdjfaa
open Go Go.RowKit Go.Adm

set_option maxRecDepth 100000 in
set_option maxHeartbeats 3200000 in
theorem above1_any (w : World) (idx level : Int) (x y : List UInt8) (gb : Nat) (hx : x.length = 16) (hy : y.length = 16) (hc : w.cell? ⟨gb, 0, none⟩ = some (.int .i64 level)) (hgb : gb < w.heap.size) :
    Calls Try.prog 55 #[.int .i64 idx, .agg (x.map bv).toArray, .agg (y.map bv).toArray, .pointer (some ⟨gb, 0, none⟩)] w fun e w' => e = .returned (.agg ((joinS level idx x y).map bv).toArray) ∧ Below w.heap.size w w' := by
  have hR : All w [.low (.cell ⟨gb, 0, none⟩ (.int .i64 level)), .kept w w.heap.size] := ⟨⟨hc, hgb⟩, ⟨Below.refl _ _, Nat.le_refl _⟩, trivial⟩
  have hxl := Lib.hid hx
  have hyl := Lib.hid hy
  have h16 := Lib.hid (joinS_len level idx x y)
  clear hx hy hc
  go_enter Try.func55, Try.ntmps55
  go_upto_region 1 with (fail)
  refine wp_gen (((hR.new (l := x.map bv) _ 23 rfl rfl).new (l := y.map bv) _ 23 (g := w.heap.size + 1) (by simp) rfl).new (l := List.replicate 16 (Value.int .u8 0)) _ 23 (g := w.heap.size + 1 + 1) (by simp) rfl) ?_
  intro W hW
  have hcc : W.cell? ⟨gb, 0, none⟩ = some (.int .i64 level) := hW.2.2.2.1.1
  go_wp2_with (first | (refine wl_load_at rfl 23 (.tmp 5) rfl w.heap.size _ _ (hW.at_ 2 rfl) rfl _ Try.underlying23 rfl (by rw [List.length_map, hxl.out]; kernel_rfl) ?_) | (refine wl_load_at rfl 23 (.tmp 6) rfl (w.heap.size + 1) _ _ (hW.at_ 1 rfl) rfl _ Try.underlying23 rfl (by rw [List.length_map, hyl.out]; kernel_rfl) ?_))
  refine (Join_any W x y level idx hxl.out hyl.out).mono ?_
  rintro e w5 ⟨rfl, hb⟩
  have hI5 := hW.call hb
  generalize hr : joinS level idx x y = r at *
  have HR := Lib.hid hr
  clear hr hb hW hcc
  go_wp2_with (refine wl_store_at hI5 0 rfl 23 (.tmp 7) _ rfl (w.heap.size + 1 + 1) _ _ (r.map bv) rfl rfl rfl (by rw [List.length_map, h16.out]; rfl) (by rw [List.length_map, h16.out]; kernel_rfl) (bv_one _) (by simp [Apart, Res.apart, Low.cell] <;> omega) ?_; intro w9 hI9 hs9)
  refine bodyPost_ret (v := .agg (r.map bv).toArray) ?_ rfl ⟨by rw [HR.out], (hI9.at_ 4 rfl).1⟩
  exact results_cell_row rfl _ _ (w.heap.size + 1 + 1) 23 (r.map bv).toArray (0, 0) _ rfl (hI9.at_ 0 rfl) Try.underlying23 rfl (by rw [List.size_toArray, List.length_map, h16.out]; kernel_rfl)

set_option maxRecDepth 100000 in
set_option maxHeartbeats 3200000 in
theorem raise_any (w : World) (B : Nat) (A : Option Addr) (n c : Nat) (level : Int) (l : List (List UInt8)) (h : Els w B 16 A n (hvs l)) (h16 : ∀ x ∈ l, x.length = 16) (hB : B ≤ w.heap.size) (hn : n ≤ 1000000) (gb : Nat) (hc : w.cell? ⟨gb, 0, none⟩ = some (.int .i64 level)) (hgb : gb < w.heap.size) :
    Calls Try.prog 54 #[.slice A n c, .func (.func 55) #[] #[.pointer (some ⟨gb, 0, none⟩)]] w (UpPost level l 23 w) := by
  have hln : l.length = n := by have := h.len; rwa [hvs_len] at this
  have hI0 : All w [.own w.heap.size 23 16 none 0 0 (hvs ((upS level l).take 0)).flatten, .low (.els B 16 A n (hvs l)), .low (.cell ⟨gb, 0, none⟩ (.int .i64 level)), .kept w w.heap.size] := ⟨Go.Adm.Own.nil _ _ _ _, ⟨h, hB⟩, ⟨hc, hgb⟩, ⟨Below.refl _ _, Nat.le_refl _⟩, trivial⟩
  have HN := Lib.hid hln
  have H16 := Lib.hid h16
  clear h hln h16 hc
  go_enter Try.func54, Try.ntmps54
  go_wp2
  go_loopw [5, 6] (fun v i wr => ∃ (k m : Nat) (A' : Option Addr) (c' : Nat), k ≤ n / 2 ∧ i = .int .i64 m ∧ Hid (m = 2 * k) ∧ m ≤ n ∧ v = .slice A' k c' ∧ All wr [.own w.heap.size 23 16 A' k c' (hvs ((upS level l).take k)).flatten, .low (.els B 16 A n (hvs l)), .low (.cell ⟨gb, 0, none⟩ (.int .i64 level)), .kept w w.heap.size] ∧ w.heap.size ≤ wr.heap.size) (fun _ i _ => n - (intOf i).toNat)
  case atStart => exact ⟨0, 0, none, 0, by omega, rfl, Lib.hid rfl, by omega, rfl, hI0, Nat.le_refl _⟩
  case round =>
    obtain ⟨k, m, A', c', hk, rfl, HM, hm, rfl, hI, hsz⟩ := hrel
    by_cases hlt : m + 1 < n
    · have hkn : k < l.length / 2 := by have := HN.out; have := HM.out; omega
      have hMS := Lib.hid (upS_succ level l k hkn)
      have h1 : m < l.length := by have := HN.out; omega
      have h2 : m + 1 < l.length := by have := HN.out; omega
      obtain ⟨ad, rfl, _, _⟩ := Els.half (hI.2.1.1 : Els wr B 16 _ n (hvs l)) h1
      have HX : Hid (∀ W, All W [.own w.heap.size 23 16 A' k c' (hvs ((upS level l).take k)).flatten, .low (.els B 16 (some ad) n (hvs l)), .low (.cell ⟨gb, 0, none⟩ (.int .i64 level)), .kept w w.heap.size] → ∀ j u, (l[m].map bv)[j]? = some u → W.cell? ((ad.add (m * 16)).add j) = some u) := Lib.hid (fun W hW => by
        obtain ⟨a2, he, _, hcs⟩ := Els.half (hW.2.1.1 : Els W B 16 _ n (hvs l)) h1
        injection he with he; subst he
        exact hcs)
      have HY : Hid (∀ W, All W [.own w.heap.size 23 16 A' k c' (hvs ((upS level l).take k)).flatten, .low (.els B 16 (some ad) n (hvs l)), .low (.cell ⟨gb, 0, none⟩ (.int .i64 level)), .kept w w.heap.size] → ∀ j u, (l[m + 1].map bv)[j]? = some u → W.cell? ((ad.add ((m + 1) * 16)).add j) = some u) := Lib.hid (fun W hW => by
        obtain ⟨a2, he, _, hcs⟩ := Els.half (hW.2.1.1 : Els W B 16 _ n (hvs l)) h2
        injection he with he; subst he
        exact hcs)
      have hx16 : Hid (l[m].length = 16) := Lib.hid (H16.out _ (List.getElem_mem h1))
      have hy16 : Hid (l[m + 1].length = 16) := Lib.hid (H16.out _ (List.getElem_mem h2))
      have hj : Hid (upF level l k = joinS level ((m : Int) / 2) l[m] l[m + 1]) := Lib.hid (by
        have e1 : 2 * k = m := by have := HM.out; omega
        have e2 : ((m : Int) / 2) = ((k : Nat) : Int) := by have := HM.out; omega
        rw [e2, upF, e1]
        simp [List.getD, h1, h2])
      have h16b := Lib.hid (upF_len level l k)
      generalize l[m] = x at *
      generalize l[m + 1] = y at *
      have hki : (0 : Int) ≤ (m : Int) := by omega
      have hki2 : (m : Int) < (n : Int) := by omega
      have wa : IntKind.i64.wrap ((m : Int) + 1) = (m : Int) + 1 := IntWalk.i64_in _ (by omega)
      have wq : IntKind.i64.wrap ((m : Int) / 2) = (m : Int) / 2 := IntWalk.i64_in _ (by omega)
      have wb : (0 : Int) ≤ (m : Int) + 1 := by omega
      have wc : (m : Int) + 1 < (n : Int) := by omega
      have wd : ((m : Int) + 1).toNat = m + 1 := by omega
      go_wp2
      refine wp_region_hops 15 [14, 15, 16, 17, 18, 19, 20, 21, 22, 23, 24, 25, 26, 27, 28] _
        [.eq (.slice A' k c'), .eq (.func (.func 55) #[] #[.pointer (some ⟨gb, 0, none⟩)]), .eq (.int .i64 m), .eq (.int .i64 ((m : Int) / 2)), .eq (.slice (some ad) n c), .eq (.int .i64 m), .eq (.pointer (some (ad.add (m * 16)))), .eq (.agg (x.map bv).toArray), .eq (.slice (some ad) n c), .eq (.int .i64 m), .eq (.int .i64 ((m : Int) + 1)), .eq (.pointer (some (ad.add ((m + 1) * 16)))), .eq (.agg (y.map bv).toArray), .eq (.agg ((upF level l k).map bv).toArray), .rd 16 1 ((upF level l k).map bv)]
        (by kernel_rfl) (by kernel_rfl) hI rfl ?hops ?fin
      case hops =>
        refine ⟨?_, ?_, ?_, ?_, ?_, ?_, ?_, ?_, ?_, ?_, ?_, ?_, ?_, ?_, ?_, trivial⟩
        · intro a W hW hb hd K hK
          have b5 := hb 5 rfl
          go_simp
          exact hK _ _ (World.grownBy.refl _ _) rfl
        · intro a W hW hb hd K hK
          have b1 := hb 1 rfl
          go_simp
          exact hK _ _ (World.grownBy.refl _ _) rfl
        · intro a W hW hb hd K hK
          have b6 := hb 6 rfl
          go_simp
          exact hK _ _ (World.grownBy.refl _ _) rfl
        · intro a W hW hb hd K hK
          have b16 : a.tmps[16]?.getD undef = _ := hd ⟨2, .data⟩ (by simp) rfl
          go_simp
          exact hK _ _ (World.grownBy.refl _ _) rfl
        · intro a W hW hb hd K hK
          have b0 := hb 0 rfl
          go_simp
          exact hK _ _ (World.grownBy.refl _ _) rfl
        · intro a W hW hb hd K hK
          have b6 := hb 6 rfl
          go_simp
          exact hK _ _ (World.grownBy.refl _ _) rfl
        · intro a W hW hb hd K hK
          have b18 : a.tmps[18]?.getD undef = _ := hd ⟨4, .data⟩ (by simp) rfl
          have b19 : a.tmps[19]?.getD undef = _ := hd ⟨5, .data⟩ (by simp) rfl
          go_simp
          exact hK _ _ (World.grownBy.refl _ _) rfl
        · intro a W hW hb hd K hK
          have b20 : a.tmps[20]?.getD undef = _ := hd ⟨6, .data⟩ (by simp) rfl
          refine wp_load_any 23 (.tmp 20) rfl (ad.add (m * 16)) (by simp [Act.eval, b20]) (x.map bv) _ (HX.out W hW) Try.underlying23 rfl (by rw [List.length_map, hx16.out]; kernel_rfl) ?_
          exact hK _ _ (World.grownBy.refl _ _) rfl
        · intro a W hW hb hd K hK
          have b0 := hb 0 rfl
          go_simp
          exact hK _ _ (World.grownBy.refl _ _) rfl
        · intro a W hW hb hd K hK
          have b6 := hb 6 rfl
          go_simp
          exact hK _ _ (World.grownBy.refl _ _) rfl
        · intro a W hW hb hd K hK
          have b23 : a.tmps[23]?.getD undef = _ := hd ⟨9, .data⟩ (by simp) rfl
          go_simp
          exact hK _ _ (World.grownBy.refl _ _) rfl
        · intro a W hW hb hd K hK
          have b22 : a.tmps[22]?.getD undef = _ := hd ⟨8, .data⟩ (by simp) rfl
          have b24 : a.tmps[24]?.getD undef = _ := hd ⟨10, .data⟩ (by simp) rfl
          go_simp
          exact hK _ _ (World.grownBy.refl _ _) rfl
        · intro a W hW hb hd K hK
          have b25 : a.tmps[25]?.getD undef = _ := hd ⟨11, .data⟩ (by simp) rfl
          refine wp_load_any 23 (.tmp 25) rfl (ad.add ((m + 1) * 16)) (by simp [Act.eval, b25]) (y.map bv) _ (HY.out W hW) Try.underlying23 rfl (by rw [List.length_map, hy16.out]; kernel_rfl) ?_
          exact hK _ _ (World.grownBy.refl _ _) rfl
        · intro a W hW hb hd K hK
          have b15 : a.tmps[15]?.getD undef = _ := hd ⟨1, .data⟩ (by simp) rfl
          have b17 : a.tmps[17]?.getD undef = _ := hd ⟨3, .data⟩ (by simp) rfl
          have b21 : a.tmps[21]?.getD undef = _ := hd ⟨7, .data⟩ (by simp) rfl
          have b26 : a.tmps[26]?.getD undef = _ := hd ⟨12, .data⟩ (by simp) rfl
          go_simp
          refine (above1_any W ((m : Int) / 2) level x y gb hx16.out hy16.out (hW.2.2.1.1) (Nat.lt_of_succ_le hW.2.2.1.2)).mono ?_
          rintro e w' ⟨rfl, hb'⟩
          exact hK _ _ (grown_of_below hb') (by rw [← hj.out]; exact rfl)
        · intro a W hW hb hd K hK
          have b27 : a.tmps[27]?.getD undef = _ := hd ⟨13, .data⟩ (by simp) rfl
          refine wp_lit1 els_half (.tmp 27) rfl ((upF level l k).map bv) (by simp [Act.eval, b27]) (by rw [List.length_map, h16b.out]) (by decide) ?_
          exact hK _ _ (grown_alloc _ _) ⟨_, _, rfl, (Rd.lit W ((upF level l k).map bv).toArray _ 1 (by rw [List.size_toArray, List.length_map, h16b.out])).mono (by simp)⟩
      case fin =>
        clear wa wq
        intro vs W hW hv
        have e0 : vs 0 = _ := hv 0 (by decide)
        obtain ⟨A6, c6, e14, hr6⟩ : ∃ A c, vs 14 = .slice A 1 c ∧ Rd W W.heap.size 16 A 1 ((upF level l k).map bv) := hv 14 (by decide)
        have hsW : w.heap.size ≤ W.heap.size := (hW.at_ 3 rfl : Res.ok W (.kept w w.heap.size)).2
        clear hv hI HX HY
        simp only [putAll, List.drop_succ_cons, List.drop_zero, e0, e14, Act.put, List.setIfInBounds_toArray, List.set_cons_succ, List.set_cons_zero]
        clear e0 e14
        generalize upF level l k = z at *
        refine wl_app_at els_half hW 0 rfl (.tmp 14) (.tmp 28) rfl w.heap.size _ _ _ _ rfl rfl W.heap.size _ 1 _ (z.map bv) rfl hr6 (bv_one _) (by omega) hsW (by intro g hg _; simp [Apart, Res.apart, Low.els, Low.cell] <;> omega) ?_
        intro A7 c7 w7 hI7 hs7
        go_wp2
        refine ⟨⟨k + 1, m + 2, A7, c7, by have := HM.out; omega, by go_num, Lib.hid (by have := HM.out; omega), by omega, rfl, ?_, by first | omega | (simp at hs7; omega)⟩, by simp [intOf]; omega⟩
        rw [hMS.out, ← hvs_snoc]
        exact hI7
    · have hkn : k = l.length / 2 := by have := HN.out; have := HM.out; omega
      have hI2 := (hI.1 : Go.Adm.Own wr _ 23 16 A' k c' _)
      rw [List.take_of_length_le (by rw [upS_len]; omega)] at hI2
      have hkp := (hI.at_ 3 rfl : Res.ok wr (.kept w w.heap.size)).1
      have HK := Lib.hid hkn
      clear hI hI0 hkn
      go_wp2
      go_ret
      exact ⟨A', c', by rw [HK.out]; rfl, by rw [← HK.out]; exact hI2, hkp⟩

set_option maxRecDepth 100000 in
set_option maxHeartbeats 3200000 in
theorem up_any (w : World) (B : Nat) (A : Option Addr) (n c : Nat) (level : Int) (l : List (List UInt8)) (h : Els w B 16 A n (hvs l)) (h16 : ∀ x ∈ l, x.length = 16) (hB : B ≤ w.heap.size) (hn : n ≤ 1000000) :
    Calls Try.prog 30 #[.int .i64 level, .slice A n c] w (UpPost level l 23 w) := by
  have hln : l.length = n := by have := h.len; rwa [hvs_len] at this
  have hI0 : All w [.own w.heap.size 23 16 none 0 0 (hvs ((upS level l).take 0)).flatten, .low (.els B 16 A n (hvs l)), .kept w w.heap.size] := ⟨Go.Adm.Own.nil _ _ _ _, ⟨h, hB⟩, ⟨Below.refl _ _, Nat.le_refl _⟩, trivial⟩
  have HN := Lib.hid hln
  have H16 := Lib.hid h16
  clear h hln h16
  go_enter Try.func30, Try.ntmps30
  go_wp2
  go_loopw [5, 6] (fun v i wr => ∃ (k m : Nat) (A' : Option Addr) (c' : Nat), k ≤ n / 2 ∧ i = .int .i64 m ∧ Hid (m = 2 * k) ∧ m ≤ n ∧ v = .slice A' k c' ∧ All wr [.own w.heap.size 23 16 A' k c' (hvs ((upS level l).take k)).flatten, .low (.els B 16 A n (hvs l)), .kept w w.heap.size] ∧ w.heap.size ≤ wr.heap.size) (fun _ i _ => n - (intOf i).toNat)
  case atStart => exact ⟨0, 0, none, 0, by omega, rfl, Lib.hid rfl, by omega, rfl, hI0, Nat.le_refl _⟩
  case round =>
    obtain ⟨k, m, A', c', hk, rfl, HM, hm, rfl, hI, hsz⟩ := hrel
    by_cases hlt : m + 1 < n
    · have hkn : k < l.length / 2 := by have := HN.out; have := HM.out; omega
      have hMS := Lib.hid (upS_succ level l k hkn)
      have h1 : m < l.length := by have := HN.out; omega
      have h2 : m + 1 < l.length := by have := HN.out; omega
      obtain ⟨ad, rfl, _, _⟩ := Els.half (hI.2.1.1 : Els wr B 16 _ n (hvs l)) h1
      have HX : Hid (∀ W, All W [.own w.heap.size 23 16 A' k c' (hvs ((upS level l).take k)).flatten, .low (.els B 16 (some ad) n (hvs l)), .kept w w.heap.size] → ∀ j u, (l[m].map bv)[j]? = some u → W.cell? ((ad.add (m * 16)).add j) = some u) := Lib.hid (fun W hW => by
        obtain ⟨a2, he, _, hcs⟩ := Els.half (hW.2.1.1 : Els W B 16 _ n (hvs l)) h1
        injection he with he; subst he
        exact hcs)
      have HY : Hid (∀ W, All W [.own w.heap.size 23 16 A' k c' (hvs ((upS level l).take k)).flatten, .low (.els B 16 (some ad) n (hvs l)), .kept w w.heap.size] → ∀ j u, (l[m + 1].map bv)[j]? = some u → W.cell? ((ad.add ((m + 1) * 16)).add j) = some u) := Lib.hid (fun W hW => by
        obtain ⟨a2, he, _, hcs⟩ := Els.half (hW.2.1.1 : Els W B 16 _ n (hvs l)) h2
        injection he with he; subst he
        exact hcs)
      have hx16 : Hid (l[m].length = 16) := Lib.hid (H16.out _ (List.getElem_mem h1))
      have hy16 : Hid (l[m + 1].length = 16) := Lib.hid (H16.out _ (List.getElem_mem h2))
      have hj : Hid (upF level l k = joinS level ((m : Int) / 2) l[m] l[m + 1]) := Lib.hid (by
        have e1 : 2 * k = m := by have := HM.out; omega
        have e2 : ((m : Int) / 2) = ((k : Nat) : Int) := by have := HM.out; omega
        rw [e2, upF, e1]
        simp [List.getD, h1, h2])
      have h16b := Lib.hid (upF_len level l k)
      generalize l[m] = x at *
      generalize l[m + 1] = y at *
      have hki : (0 : Int) ≤ (m : Int) := by omega
      have hki2 : (m : Int) < (n : Int) := by omega
      have wa : IntKind.i64.wrap ((m : Int) + 1) = (m : Int) + 1 := IntWalk.i64_in _ (by omega)
      have wq : IntKind.i64.wrap ((m : Int) / 2) = (m : Int) / 2 := IntWalk.i64_in _ (by omega)
      have wb : (0 : Int) ≤ (m : Int) + 1 := by omega
      have wc : (m : Int) + 1 < (n : Int) := by omega
      have wd : ((m : Int) + 1).toNat = m + 1 := by omega
      go_wp2
      refine wp_region_hops 15 [14, 15, 16, 17, 18, 19, 20, 21, 22, 23, 24, 25, 26, 27, 28] _
        [.eq (.slice A' k c'), .eq (.int .i64 level), .eq (.int .i64 m), .eq (.int .i64 ((m : Int) / 2)), .eq (.slice (some ad) n c), .eq (.int .i64 m), .eq (.pointer (some (ad.add (m * 16)))), .eq (.agg (x.map bv).toArray), .eq (.slice (some ad) n c), .eq (.int .i64 m), .eq (.int .i64 ((m : Int) + 1)), .eq (.pointer (some (ad.add ((m + 1) * 16)))), .eq (.agg (y.map bv).toArray), .eq (.agg ((upF level l k).map bv).toArray), .rd 16 1 ((upF level l k).map bv)]
        (by kernel_rfl) (by kernel_rfl) hI rfl ?hops ?fin
      case hops =>
        refine ⟨?_, ?_, ?_, ?_, ?_, ?_, ?_, ?_, ?_, ?_, ?_, ?_, ?_, ?_, ?_, trivial⟩
        · intro a W hW hb hd K hK
          have b5 := hb 5 rfl
          go_simp
          exact hK _ _ (World.grownBy.refl _ _) rfl
        · intro a W hW hb hd K hK
          have b0 := hb 0 rfl
          go_simp
          exact hK _ _ (World.grownBy.refl _ _) rfl
        · intro a W hW hb hd K hK
          have b6 := hb 6 rfl
          go_simp
          exact hK _ _ (World.grownBy.refl _ _) rfl
        · intro a W hW hb hd K hK
          have b16 : a.tmps[16]?.getD undef = _ := hd ⟨2, .data⟩ (by simp) rfl
          go_simp
          exact hK _ _ (World.grownBy.refl _ _) rfl
        · intro a W hW hb hd K hK
          have b1 := hb 1 rfl
          go_simp
          exact hK _ _ (World.grownBy.refl _ _) rfl
        · intro a W hW hb hd K hK
          have b6 := hb 6 rfl
          go_simp
          exact hK _ _ (World.grownBy.refl _ _) rfl
        · intro a W hW hb hd K hK
          have b18 : a.tmps[18]?.getD undef = _ := hd ⟨4, .data⟩ (by simp) rfl
          have b19 : a.tmps[19]?.getD undef = _ := hd ⟨5, .data⟩ (by simp) rfl
          go_simp
          exact hK _ _ (World.grownBy.refl _ _) rfl
        · intro a W hW hb hd K hK
          have b20 : a.tmps[20]?.getD undef = _ := hd ⟨6, .data⟩ (by simp) rfl
          refine wp_load_any 23 (.tmp 20) rfl (ad.add (m * 16)) (by simp [Act.eval, b20]) (x.map bv) _ (HX.out W hW) Try.underlying23 rfl (by rw [List.length_map, hx16.out]; kernel_rfl) ?_
          exact hK _ _ (World.grownBy.refl _ _) rfl
        · intro a W hW hb hd K hK
          have b1 := hb 1 rfl
          go_simp
          exact hK _ _ (World.grownBy.refl _ _) rfl
        · intro a W hW hb hd K hK
          have b6 := hb 6 rfl
          go_simp
          exact hK _ _ (World.grownBy.refl _ _) rfl
        · intro a W hW hb hd K hK
          have b23 : a.tmps[23]?.getD undef = _ := hd ⟨9, .data⟩ (by simp) rfl
          go_simp
          exact hK _ _ (World.grownBy.refl _ _) rfl
        · intro a W hW hb hd K hK
          have b22 : a.tmps[22]?.getD undef = _ := hd ⟨8, .data⟩ (by simp) rfl
          have b24 : a.tmps[24]?.getD undef = _ := hd ⟨10, .data⟩ (by simp) rfl
          go_simp
          exact hK _ _ (World.grownBy.refl _ _) rfl
        · intro a W hW hb hd K hK
          have b25 : a.tmps[25]?.getD undef = _ := hd ⟨11, .data⟩ (by simp) rfl
          refine wp_load_any 23 (.tmp 25) rfl (ad.add ((m + 1) * 16)) (by simp [Act.eval, b25]) (y.map bv) _ (HY.out W hW) Try.underlying23 rfl (by rw [List.length_map, hy16.out]; kernel_rfl) ?_
          exact hK _ _ (World.grownBy.refl _ _) rfl
        · intro a W hW hb hd K hK
          have b15 : a.tmps[15]?.getD undef = _ := hd ⟨1, .data⟩ (by simp) rfl
          have b17 : a.tmps[17]?.getD undef = _ := hd ⟨3, .data⟩ (by simp) rfl
          have b21 : a.tmps[21]?.getD undef = _ := hd ⟨7, .data⟩ (by simp) rfl
          have b26 : a.tmps[26]?.getD undef = _ := hd ⟨12, .data⟩ (by simp) rfl
          go_simp
          refine (refJoin_any W x y level ((m : Int) / 2) hx16.out hy16.out).mono ?_
          rintro e w' ⟨rfl, hb'⟩
          exact hK _ _ (grown_of_below hb') (by rw [← hj.out]; exact rfl)
        · intro a W hW hb hd K hK
          have b27 : a.tmps[27]?.getD undef = _ := hd ⟨13, .data⟩ (by simp) rfl
          refine wp_lit1 els_half (.tmp 27) rfl ((upF level l k).map bv) (by simp [Act.eval, b27]) (by rw [List.length_map, h16b.out]) (by decide) ?_
          exact hK _ _ (grown_alloc _ _) ⟨_, _, rfl, (Rd.lit W ((upF level l k).map bv).toArray _ 1 (by rw [List.size_toArray, List.length_map, h16b.out])).mono (by simp)⟩
      case fin =>
        clear wa wq
        intro vs W hW hv
        have e0 : vs 0 = _ := hv 0 (by decide)
        obtain ⟨A6, c6, e14, hr6⟩ : ∃ A c, vs 14 = .slice A 1 c ∧ Rd W W.heap.size 16 A 1 ((upF level l k).map bv) := hv 14 (by decide)
        have hsW : w.heap.size ≤ W.heap.size := (hW.at_ 2 rfl : Res.ok W (.kept w w.heap.size)).2
        clear hv hI HX HY
        simp only [putAll, List.drop_succ_cons, List.drop_zero, e0, e14, Act.put, List.setIfInBounds_toArray, List.set_cons_succ, List.set_cons_zero]
        clear e0 e14
        generalize upF level l k = z at *
        refine wl_app_at els_half hW 0 rfl (.tmp 14) (.tmp 28) rfl w.heap.size _ _ _ _ rfl rfl W.heap.size _ 1 _ (z.map bv) rfl hr6 (bv_one _) (by omega) hsW (by intro g hg _; simp [Apart, Res.apart, Low.els, Low.cell] <;> omega) ?_
        intro A7 c7 w7 hI7 hs7
        go_wp2
        refine ⟨⟨k + 1, m + 2, A7, c7, by have := HM.out; omega, by go_num, Lib.hid (by have := HM.out; omega), by omega, rfl, ?_, by first | omega | (simp at hs7; omega)⟩, by simp [intOf]; omega⟩
        rw [hMS.out, ← hvs_snoc]
        exact hI7
    · have hkn : k = l.length / 2 := by have := HN.out; have := HM.out; omega
      have hI2 := (hI.1 : Go.Adm.Own wr _ 23 16 A' k c' _)
      rw [List.take_of_length_le (by rw [upS_len]; omega)] at hI2
      have hkp := (hI.at_ 2 rfl : Res.ok wr (.kept w w.heap.size)).1
      have HK := Lib.hid hkn
      clear hI hI0 hkn
      go_wp2
      go_ret
      exact ⟨A', c', by rw [HK.out]; rfl, by rw [← HK.out]; exact hI2, hkp⟩

end Go.Proofs.Ytlnbeglelhdjfaa

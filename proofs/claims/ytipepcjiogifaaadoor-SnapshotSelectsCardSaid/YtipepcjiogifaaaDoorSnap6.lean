/- The iterator both: the changes of two lists side by side. -/
import Derived.Test.YtipepcjiogifaaaDoorSnap5
import Derived.Test.YtipepcjiogifaaaDoorSnapSpec3
set_option linter.unusedSimpArgs false
set_option linter.unusedVariables false
namespace Go.Adm
open Go Go.RowKit
theorem wp_region_hopsJ {P : Program} {id : Nat} {Q : Exit → Act → World → Prop} {a0 : Act} {w0 : World} {l : List Oper} (n : Nat) (D : List Nat) (rs : List Res) (J : World → Prop) (fs : List VF)
    (hm : P.follows .mixedOrders = true)
    (hB : (Region.noSelect l.toArray && decide (n < l.length) && Region.sinkB .any l.toArray n && Region.chainB .any l.toArray n && backB l n && dstB D l n && decide (D.Nodup) && Region.seqB .any l.toArray (l.length - n) n (Array.replicate n true ++ Array.replicate (l.length - n) false)) = true)
    (hJ : ∀ w w' : World, w.grownBy w' none → J w → J w') (hR : All w0 rs ∧ J w0) (hDs : D.all (fun t => decide (t < a0.tmps.size)) = true)
    (hop : HopsH P Q D a0 (fun W => All W rs ∧ J W) (VF.at fs) 0 (l.take n))
    (hfin : ∀ (vs : Nat → Value) (w : World), All w rs ∧ J w → (∀ k, k < n → VF.at fs k (vs k) w) → wpList P l.toArray Q (l.drop n) (putAll vs D 0 a0) w) : (Code.region id l.toArray true).wp P Q a0 w0 :=
  wp_region_freeH n D (fun W => All W rs ∧ J W) (VF.at fs) hm hB (fun _ _ hg h => ⟨h.1.quiet hg, hJ _ _ hg h.2⟩) (fun _ _ _ _ hg h => VF.keep hg _ h) ⟨hR.1.drew, hJ _ _ (grown_drew w0) hR.2⟩ hDs hop hfin
end Go.Adm
namespace Go.Proofs.YtipepcjiogifaaaDoor
open Go Go.RowKit Go.Adm Go.Shelf
attribute [local go_sem] Oper.semAt_some

theorem both_any (w : World) (x y : Value) (h1 : x.oneCell' = true) (h2 : y.oneCell' = true) (A1 A2 : Option Addr) (n1 n2 c1 c2 : Nat) (hx : x = .slice A1 n1 c1) (hy : y = .slice A2 n2 c2) :
    Calls Tryd.prog 53 #[x, y] w fun e w' => e = .returned (.func (.func 65) #[] #[.pointer (some ⟨w.heap.size, 0, none⟩), .pointer (some ⟨w.heap.size + 1, 0, none⟩)]) ∧ w' = (w.alloc (.cells #[x] 58)).alloc (.cells #[y] 58) := by
  subst hx hy
  go_enter Tryd.func53, Tryd.ntmps53
  go_wp2_with fail
  go_ret
  exact ⟨by simp, rfl⟩

set_option maxRecDepth 100000 in
set_option maxHeartbeats 6400000 in
theorem both_stops (n : Nat) (hn : 1 ≤ n) (g1 g2 B : Nat) (A1 A2 : Option Addr) (k1 k2 : Nat) (a b : List C) (w : World) (hg : g1 ≠ g2) (hg1 : g1 < w.heap.size) (hg2 : g2 < w.heap.size) (hb1 : a.length ≤ 1000000) (hb2 : b.length ≤ 1000000)
    (hR : All w [.cells g1 58 [.slice A1 a.length k1], .cells g2 58 [.slice A2 b.length k2], .low (.els B 65 A1 a.length (a.map chgC)), .low (.els B 65 A2 b.length (b.map chgC))]) :
    SeqStopsK Fence.wide n Tryd.prog 65 #[.pointer (some ⟨g1, 0, none⟩), .pointer (some ⟨g2, 0, none⟩)] (encI A1 A2 a b) (KpR [.cells g1 58 [.slice A1 a.length k1], .cells g2 58 [.slice A2 b.length k2], .low (.els B 65 A1 a.length (a.map chgC)), .low (.els B 65 A2 b.length (b.map chgC))]) (fun xs => xs = bothF a b 0 0) (fun pre => ∃ t, pre ++ t = bothF a b 0 0) (a.length + b.length) w := by
  intro l J Jx W hW hJ hJx hY h0
  have hRW : All W [.cells g1 58 [.slice A1 a.length k1], .cells g2 58 [.slice A2 b.length k2], .low (.els B 65 A1 a.length (a.map chgC)), .low (.els B 65 A2 b.length (b.map chgC))] := hR.call hW
  have HT := Lib.hid (bothF_len a b _ 0 0 (Nat.le_refl _))
  refine callsIn_of_wp Tryd.func65 rfl trivial ?_ rfl
  simp only [Tryd.ntmps65, List.size_toArray, List.length_cons, List.length_nil, Nat.reduceAdd, Nat.reduceSub, Array.replicate_succ, Array.replicate_zero, List.push_toArray, List.append_toArray, List.nil_append, List.cons_append]
  gi_wp2
  gi_loopw [4, 5] (fun pi pj wr => ∃ (i j : Nat) (pre : List (It a b)), i ≤ a.length ∧ j ≤ b.length ∧ pi = .int .i64 i ∧ pj = .int .i64 j ∧ pre ++ bothF a b i j = bothF a b 0 0 ∧ J pre wr ∧ All wr [.cells g1 58 [.slice A1 a.length k1], .cells g2 58 [.slice A2 b.length k2], .low (.els B 65 A1 a.length (a.map chgC)), .low (.els B 65 A2 b.length (b.map chgC))]) (fun pi pj _ => (a.length - (intOf pi).toNat) + (b.length - (intOf pj).toNat))
  case atStart => exact ⟨0, 0, [], by omega, by omega, rfl, rfl, rfl, h0, hRW⟩
  case round =>
    obtain ⟨i, j, pre, hia, hjb, rfl, rfl, hpre, hJp, hI⟩ := hrel
    have HPRE := Lib.hid hpre
    clear hpre h0 hRW
    by_cases hi : i < a.length
    · by_cases hj : j < b.length
      · obtain ⟨ad1, rfl, -, -⟩ := Els.elem (hI.at_ 2 rfl : Els wr B 65 A1 a.length (a.map chgC) ∧ B ≤ wr.heap.size).1 hi
        obtain ⟨ad2, rfl, -, -⟩ := Els.elem (hI.at_ 3 rfl : Els wr B 65 A2 b.length (b.map chgC) ∧ B ≤ wr.heap.size).1 hj
        obtain ⟨px, hpx⟩ : ∃ p, p = a[i].p := ⟨_, rfl⟩
        have HX : Hid (∀ W, All W [.cells g1 58 [.slice (some ad1) a.length k1], .cells g2 58 [.slice (some ad2) b.length k2], .low (.els B 65 (some ad1) a.length (a.map chgC)), .low (.els B 65 (some ad2) b.length (b.map chgC))] → W.cell? (ad1.add (i * 65)) = some (.string px)) := Lib.hid (fun W hW => by
          obtain ⟨ad', e, _, hc⟩ := Els.elem (hW.at_ 2 rfl : Els W B 65 (some ad1) a.length (a.map chgC) ∧ B ≤ W.heap.size).1 hi
          obtain rfl := Option.some.inj e
          have := hc 0 (sv a[i].p) rfl
          rw [add_zero] at this
          rw [hpx]
          exact this)
        obtain ⟨py, hpy⟩ : ∃ p, p = b[j].p := ⟨_, rfl⟩
        have HY : Hid (∀ W, All W [.cells g1 58 [.slice (some ad1) a.length k1], .cells g2 58 [.slice (some ad2) b.length k2], .low (.els B 65 (some ad1) a.length (a.map chgC)), .low (.els B 65 (some ad2) b.length (b.map chgC))] → W.cell? (ad2.add (j * 65)) = some (.string py)) := Lib.hid (fun W hW => by
          obtain ⟨ad', e, _, hc⟩ := Els.elem (hW.at_ 3 rfl : Els W B 65 (some ad2) b.length (b.map chgC) ∧ B ≤ W.heap.size).1 hj
          obtain rfl := Option.some.inj e
          have := hc 0 (sv b[j].p) rfl
          rw [add_zero] at this
          rw [hpy]
          exact this)
        have hadd := hia
        have di : decide ((i : Int) < (a.length : Int)) = true := by simp; omega
        have dj : decide ((j : Int) < (b.length : Int)) = true := by simp; omega
        have qi : (((i : Int)) == (a.length : Int)) = false := by simp; omega
        have qj : (((j : Int)) == (b.length : Int)) = false := by simp; omega
        have wi0 : (0 : Int) ≤ (i : Int) := by omega
        have wi1 : (i : Int) < (a.length : Int) := by omega
        have wi2 : ((i : Int)).toNat = i := by omega
        have wi3 : IntKind.i64.wrap ((i : Int) + 1) = (i : Int) + 1 := IntWalk.i64_in _ (by omega)
        have wj0 : (0 : Int) ≤ (j : Int) := by omega
        have wj1 : (j : Int) < (b.length : Int) := by omega
        have wj2 : ((j : Int)).toNat = j := by omega
        have wj3 : IntKind.i64.wrap ((j : Int) + 1) = (j : Int) + 1 := IntWalk.i64_in _ (by omega)
        cases v1 : Op.bytesLess px.toList py.toList with
        | true =>
          have v2 : Op.bytesLess py.toList px.toList = false := sto_blt.asym v1
          have v3 : (px.toList == py.toList) = false := by rw [toList_beq]; simp only [decide_eq_false_iff_not]; intro e; rw [e, less_irr] at v1; cases v1
          have v4 : (py.toList == px.toList) = false := by rw [toList_beq]; simp only [decide_eq_false_iff_not]; intro e; rw [e, less_irr] at v1; cases v1
          have hbf := Lib.hid (bothF_l hi hj (by rw [← hpx, ← hpy]; exact v1))
          have HLEN : Hid (pre.length < a.length + b.length) := Lib.hid (by have h1 := congrArg List.length HPRE.out; rw [hbf.out, List.length_append, List.length_cons] at h1; have h2 := HT.out; omega)
          clear hpx hpy
          have e1wr : wr.cell? ⟨g1, 0, none⟩ = some (.slice (some ad1) a.length k1) := Cells.cell (hI.at_ 0 rfl) (i := 0) (by simp)
          have e2wr : wr.cell? ⟨g2, 0, none⟩ = some (.slice (some ad2) b.length k2) := Cells.cell (hI.at_ 1 rfl) (i := 0) (by simp)
          gi_wp2
          clear e1wr e2wr
          refine wpIn_wide.2 ?_
          refine wp_region_hopsJ 22 (18 :: 19 :: 20 :: 21 :: 22 :: 23 :: 24 :: 25 :: 26 :: 27 :: 28 :: 29 :: 30 :: 31 :: 32 :: 33 :: 34 :: 35 :: 36 :: 37 :: 38 :: 39 :: []) [.cells g1 58 [.slice (some ad1) a.length k1], .cells g2 58 [.slice (some ad2) b.length k2], .low (.els B 65 (some ad1) a.length (a.map chgC)), .low (.els B 65 (some ad2) b.length (b.map chgC))] (fun W => J pre W)
            (.eq (.int .i64 j) :: .eq (.slice (some ad2) b.length k2) :: .eq (.int .i64 b.length) :: .eq (.bool false) :: .eq (.bool false) :: .eq (.int .i64 i) :: .eq (.slice (some ad1) a.length k1) :: .eq (.int .i64 a.length) :: .eq (.bool true) :: .eq (.bool true) :: .eq (.slice (some ad1) a.length k1) :: .eq (.int .i64 i) :: .eq (.pointer (some (ad1.add (i * 65)))) :: .eq (.pointer (some (ad1.add (i * 65)))) :: .eq (.string px) :: .eq (.slice (some ad2) b.length k2) :: .eq (.int .i64 j) :: .eq (.pointer (some (ad2.add (j * 65)))) :: .eq (.pointer (some (ad2.add (j * 65)))) :: .eq (.string py) :: .eq (.bool true) :: .eq (.bool true) :: [])
            (by kernel_rfl) (by kernel_rfl) (fun w1 w2 hg hj => hJ _ _ _ none hj hg (fun r e => by cases e)) ⟨hI, hJp⟩ rfl ?hops ?fin
          case hops =>
            refine ⟨?_, ?_, ?_, ?_, ?_, ?_, ?_, ?_, ?_, ?_, ?_, ?_, ?_, ?_, ?_, ?_, ?_, ?_, ?_, ?_, ?_, ?_, trivial⟩
            · intro a' W hW hb hd K hK
              have b5 := hb 5 rfl
              go_simp
              exact hK _ _ (World.grownBy.refl _ _) rfl
            · intro a' W hW hb hd K hK
              have b2 := hb 2 rfl
              have q1 : W.cell? ⟨g2, 0, none⟩ = some (.slice (some ad2) b.length k2) := Cells.cell (hW.1.at_ 1 rfl) (i := 0) (by simp)
              go_simp
              exact hK _ _ (World.grownBy.refl _ _) rfl
            · intro a' W hW hb hd K hK
              have b19 : a'.tmps[19]?.getD undef = _ := hd ⟨1, .data⟩ (by simp) rfl
              go_simp
              exact hK _ _ (World.grownBy.refl _ _) rfl
            · intro a' W hW hb hd K hK
              have b18 : a'.tmps[18]?.getD undef = _ := hd ⟨0, .data⟩ (by simp) rfl
              have b20 : a'.tmps[20]?.getD undef = _ := hd ⟨2, .data⟩ (by simp) rfl
              go_simp
              exact hK _ _ (World.grownBy.refl _ _) rfl
            · intro a' W hW hb hd K hK
              have b21 : a'.tmps[21]?.getD undef = _ := hd ⟨3, .data⟩ (by simp) rfl
              go_simp
              exact hK _ _ (World.grownBy.refl _ _) rfl
            · refine Or.inl ⟨fun v w h => h, ?_⟩
              intro a' W hW hb hd K hK
              have b4 := hb 4 rfl
              go_simp
              exact hK _ _ (World.grownBy.refl _ _) rfl
            · refine Or.inl ⟨fun v w h => h, ?_⟩
              intro a' W hW hb hd K hK
              have b1 := hb 1 rfl
              have q1 : W.cell? ⟨g1, 0, none⟩ = some (.slice (some ad1) a.length k1) := Cells.cell (hW.1.at_ 0 rfl) (i := 0) (by simp)
              go_simp
              exact hK _ _ (World.grownBy.refl _ _) rfl
            · refine Or.inl ⟨fun v w h => h, ?_⟩
              intro a' W hW hb hd K hK
              have b24 : a'.tmps[24]?.getD undef = _ := hd ⟨6, .data⟩ (by simp) rfl
              go_simp
              exact hK _ _ (World.grownBy.refl _ _) rfl
            · refine Or.inl ⟨fun v w h => h, ?_⟩
              intro a' W hW hb hd K hK
              have b23 : a'.tmps[23]?.getD undef = _ := hd ⟨5, .data⟩ (by simp) rfl
              have b25 : a'.tmps[25]?.getD undef = _ := hd ⟨7, .data⟩ (by simp) rfl
              go_simp
              exact hK _ _ (World.grownBy.refl _ _) rfl
            · refine Or.inl ⟨fun v w h => h, ?_⟩
              intro a' W hW hb hd K hK
              have b26 : a'.tmps[26]?.getD undef = _ := hd ⟨8, .data⟩ (by simp) rfl
              go_simp
              exact hK _ _ (World.grownBy.refl _ _) rfl
            · refine Or.inl ⟨fun v w h => h, ?_⟩
              intro a' W hW hb hd K hK
              have b1 := hb 1 rfl
              have q1 : W.cell? ⟨g1, 0, none⟩ = some (.slice (some ad1) a.length k1) := Cells.cell (hW.1.at_ 0 rfl) (i := 0) (by simp)
              go_simp
              exact hK _ _ (World.grownBy.refl _ _) rfl
            · refine Or.inl ⟨fun v w h => h, ?_⟩
              intro a' W hW hb hd K hK
              have b4 := hb 4 rfl
              go_simp
              exact hK _ _ (World.grownBy.refl _ _) rfl
            · refine Or.inl ⟨fun v w h => h, ?_⟩
              intro a' W hW hb hd K hK
              have b28 : a'.tmps[28]?.getD undef = _ := hd ⟨10, .data⟩ (by simp) rfl
              have b29 : a'.tmps[29]?.getD undef = _ := hd ⟨11, .data⟩ (by simp) rfl
              go_simp
              exact hK _ _ (World.grownBy.refl _ _) rfl
            · refine Or.inl ⟨fun v w h => h, ?_⟩
              intro a' W hW hb hd K hK
              have b30 : a'.tmps[30]?.getD undef = _ := hd ⟨12, .data⟩ (by simp) rfl
              go_simp
              exact hK _ _ (World.grownBy.refl _ _) (by first | rfl | (rw [add_zero]; rfl) | (simp [add_zero]; rfl))
            · refine Or.inl ⟨fun v w h => h, ?_⟩
              intro a' W hW hb hd K hK
              have b31 : a'.tmps[31]?.getD undef = _ := hd ⟨13, .data⟩ (by simp) rfl
              have q1 : W.cell? (ad1.add (i * 65)) = some (.string px) := HX.out W hW.1
              go_simp
              exact hK _ _ (World.grownBy.refl _ _) rfl
            · refine Or.inl ⟨fun v w h => h, ?_⟩
              intro a' W hW hb hd K hK
              have b2 := hb 2 rfl
              have q1 : W.cell? ⟨g2, 0, none⟩ = some (.slice (some ad2) b.length k2) := Cells.cell (hW.1.at_ 1 rfl) (i := 0) (by simp)
              go_simp
              exact hK _ _ (World.grownBy.refl _ _) rfl
            · refine Or.inl ⟨fun v w h => h, ?_⟩
              intro a' W hW hb hd K hK
              have b5 := hb 5 rfl
              go_simp
              exact hK _ _ (World.grownBy.refl _ _) rfl
            · refine Or.inl ⟨fun v w h => h, ?_⟩
              intro a' W hW hb hd K hK
              have b33 : a'.tmps[33]?.getD undef = _ := hd ⟨15, .data⟩ (by simp) rfl
              have b34 : a'.tmps[34]?.getD undef = _ := hd ⟨16, .data⟩ (by simp) rfl
              go_simp
              exact hK _ _ (World.grownBy.refl _ _) rfl
            · refine Or.inl ⟨fun v w h => h, ?_⟩
              intro a' W hW hb hd K hK
              have b35 : a'.tmps[35]?.getD undef = _ := hd ⟨17, .data⟩ (by simp) rfl
              go_simp
              exact hK _ _ (World.grownBy.refl _ _) (by first | rfl | (rw [add_zero]; rfl) | (simp [add_zero]; rfl))
            · refine Or.inl ⟨fun v w h => h, ?_⟩
              intro a' W hW hb hd K hK
              have b36 : a'.tmps[36]?.getD undef = _ := hd ⟨18, .data⟩ (by simp) rfl
              have q1 : W.cell? (ad2.add (j * 65)) = some (.string py) := HY.out W hW.1
              go_simp
              exact hK _ _ (World.grownBy.refl _ _) rfl
            · refine Or.inl ⟨fun v w h => h, ?_⟩
              intro a' W hW hb hd K hK
              have b32 : a'.tmps[32]?.getD undef = _ := hd ⟨14, .data⟩ (by simp) rfl
              have b37 : a'.tmps[37]?.getD undef = _ := hd ⟨19, .data⟩ (by simp) rfl
              go_simp
              exact hK _ _ (World.grownBy.refl _ _) rfl
            · refine Or.inl ⟨fun v w h => h, ?_⟩
              intro a' W hW hb hd K hK
              have b27 : a'.tmps[27]?.getD undef = _ := hd ⟨9, .data⟩ (by simp) rfl
              have b38 : a'.tmps[38]?.getD undef = _ := hd ⟨20, .data⟩ (by simp) rfl
              go_simp
              exact hK _ _ (World.grownBy.refl _ _) rfl
          case fin =>
            intro vs V3 hV3 hv
            have e4 : vs 4 = _ := hv 4 (by decide)
            have e21 : vs 21 = _ := hv 21 (by decide)
            clear hv
            simp only [putAll, List.drop_succ_cons, List.drop_zero, e4, e21, Act.put, List.setIfInBounds_toArray, List.set_cons_succ, List.set_cons_zero]
            clear e4 e21
            go_wp2_with fail
            clear hI hJp
            have e1V3 : V3.cell? ⟨g1, 0, none⟩ = some (.slice (some ad1) a.length k1) := Cells.cell (hV3.1.at_ 0 rfl) (i := 0) (by simp)
            have e2V3 : V3.cell? ⟨g2, 0, none⟩ = some (.slice (some ad2) b.length k2) := Cells.cell (hV3.1.at_ 1 rfl) (i := 0) (by simp)
            gi_wp2
            clear e1V3 e2V3
            refine wpIn_wide.2 ?_
            refine wp_region_hopsJ 22 (44 :: 45 :: 46 :: 47 :: 48 :: 49 :: 50 :: 51 :: 52 :: 53 :: 54 :: 55 :: 56 :: 57 :: 58 :: 59 :: 60 :: 61 :: 62 :: 63 :: 64 :: 65 :: []) [.cells g1 58 [.slice (some ad1) a.length k1], .cells g2 58 [.slice (some ad2) b.length k2], .low (.els B 65 (some ad1) a.length (a.map chgC)), .low (.els B 65 (some ad2) b.length (b.map chgC))] (fun W => J pre W)
              (.eq (.int .i64 i) :: .eq (.slice (some ad1) a.length k1) :: .eq (.int .i64 a.length) :: .eq (.bool false) :: .eq (.bool false) :: .eq (.int .i64 j) :: .eq (.slice (some ad2) b.length k2) :: .eq (.int .i64 b.length) :: .eq (.bool true) :: .eq (.bool true) :: .eq (.slice (some ad2) b.length k2) :: .eq (.int .i64 j) :: .eq (.pointer (some (ad2.add (j * 65)))) :: .eq (.pointer (some (ad2.add (j * 65)))) :: .eq (.string py) :: .eq (.slice (some ad1) a.length k1) :: .eq (.int .i64 i) :: .eq (.pointer (some (ad1.add (i * 65)))) :: .eq (.pointer (some (ad1.add (i * 65)))) :: .eq (.string px) :: .eq (.bool false) :: .eq (.bool false) :: [])
              (by kernel_rfl) (by kernel_rfl) (fun w1 w2 hg hj => hJ _ _ _ none hj hg (fun r e => by cases e)) hV3 rfl ?hops ?fin
            case hops =>
              refine ⟨?_, ?_, ?_, ?_, ?_, ?_, ?_, ?_, ?_, ?_, ?_, ?_, ?_, ?_, ?_, ?_, ?_, ?_, ?_, ?_, ?_, ?_, trivial⟩
              · intro a' W hW hb hd K hK
                have b4 := hb 4 rfl
                go_simp
                exact hK _ _ (World.grownBy.refl _ _) rfl
              · intro a' W hW hb hd K hK
                have b1 := hb 1 rfl
                have q1 : W.cell? ⟨g1, 0, none⟩ = some (.slice (some ad1) a.length k1) := Cells.cell (hW.1.at_ 0 rfl) (i := 0) (by simp)
                go_simp
                exact hK _ _ (World.grownBy.refl _ _) rfl
              · intro a' W hW hb hd K hK
                have b45 : a'.tmps[45]?.getD undef = _ := hd ⟨1, .data⟩ (by simp) rfl
                go_simp
                exact hK _ _ (World.grownBy.refl _ _) rfl
              · intro a' W hW hb hd K hK
                have b44 : a'.tmps[44]?.getD undef = _ := hd ⟨0, .data⟩ (by simp) rfl
                have b46 : a'.tmps[46]?.getD undef = _ := hd ⟨2, .data⟩ (by simp) rfl
                go_simp
                exact hK _ _ (World.grownBy.refl _ _) rfl
              · intro a' W hW hb hd K hK
                have b47 : a'.tmps[47]?.getD undef = _ := hd ⟨3, .data⟩ (by simp) rfl
                go_simp
                exact hK _ _ (World.grownBy.refl _ _) rfl
              · refine Or.inl ⟨fun v w h => h, ?_⟩
                intro a' W hW hb hd K hK
                have b5 := hb 5 rfl
                go_simp
                exact hK _ _ (World.grownBy.refl _ _) rfl
              · refine Or.inl ⟨fun v w h => h, ?_⟩
                intro a' W hW hb hd K hK
                have b2 := hb 2 rfl
                have q1 : W.cell? ⟨g2, 0, none⟩ = some (.slice (some ad2) b.length k2) := Cells.cell (hW.1.at_ 1 rfl) (i := 0) (by simp)
                go_simp
                exact hK _ _ (World.grownBy.refl _ _) rfl
              · refine Or.inl ⟨fun v w h => h, ?_⟩
                intro a' W hW hb hd K hK
                have b50 : a'.tmps[50]?.getD undef = _ := hd ⟨6, .data⟩ (by simp) rfl
                go_simp
                exact hK _ _ (World.grownBy.refl _ _) rfl
              · refine Or.inl ⟨fun v w h => h, ?_⟩
                intro a' W hW hb hd K hK
                have b49 : a'.tmps[49]?.getD undef = _ := hd ⟨5, .data⟩ (by simp) rfl
                have b51 : a'.tmps[51]?.getD undef = _ := hd ⟨7, .data⟩ (by simp) rfl
                go_simp
                exact hK _ _ (World.grownBy.refl _ _) rfl
              · refine Or.inl ⟨fun v w h => h, ?_⟩
                intro a' W hW hb hd K hK
                have b52 : a'.tmps[52]?.getD undef = _ := hd ⟨8, .data⟩ (by simp) rfl
                go_simp
                exact hK _ _ (World.grownBy.refl _ _) rfl
              · refine Or.inl ⟨fun v w h => h, ?_⟩
                intro a' W hW hb hd K hK
                have b2 := hb 2 rfl
                have q1 : W.cell? ⟨g2, 0, none⟩ = some (.slice (some ad2) b.length k2) := Cells.cell (hW.1.at_ 1 rfl) (i := 0) (by simp)
                go_simp
                exact hK _ _ (World.grownBy.refl _ _) rfl
              · refine Or.inl ⟨fun v w h => h, ?_⟩
                intro a' W hW hb hd K hK
                have b5 := hb 5 rfl
                go_simp
                exact hK _ _ (World.grownBy.refl _ _) rfl
              · refine Or.inl ⟨fun v w h => h, ?_⟩
                intro a' W hW hb hd K hK
                have b54 : a'.tmps[54]?.getD undef = _ := hd ⟨10, .data⟩ (by simp) rfl
                have b55 : a'.tmps[55]?.getD undef = _ := hd ⟨11, .data⟩ (by simp) rfl
                go_simp
                exact hK _ _ (World.grownBy.refl _ _) rfl
              · refine Or.inl ⟨fun v w h => h, ?_⟩
                intro a' W hW hb hd K hK
                have b56 : a'.tmps[56]?.getD undef = _ := hd ⟨12, .data⟩ (by simp) rfl
                go_simp
                exact hK _ _ (World.grownBy.refl _ _) (by first | rfl | (rw [add_zero]; rfl) | (simp [add_zero]; rfl))
              · refine Or.inl ⟨fun v w h => h, ?_⟩
                intro a' W hW hb hd K hK
                have b57 : a'.tmps[57]?.getD undef = _ := hd ⟨13, .data⟩ (by simp) rfl
                have q1 : W.cell? (ad2.add (j * 65)) = some (.string py) := HY.out W hW.1
                go_simp
                exact hK _ _ (World.grownBy.refl _ _) rfl
              · refine Or.inl ⟨fun v w h => h, ?_⟩
                intro a' W hW hb hd K hK
                have b1 := hb 1 rfl
                have q1 : W.cell? ⟨g1, 0, none⟩ = some (.slice (some ad1) a.length k1) := Cells.cell (hW.1.at_ 0 rfl) (i := 0) (by simp)
                go_simp
                exact hK _ _ (World.grownBy.refl _ _) rfl
              · refine Or.inl ⟨fun v w h => h, ?_⟩
                intro a' W hW hb hd K hK
                have b4 := hb 4 rfl
                go_simp
                exact hK _ _ (World.grownBy.refl _ _) rfl
              · refine Or.inl ⟨fun v w h => h, ?_⟩
                intro a' W hW hb hd K hK
                have b59 : a'.tmps[59]?.getD undef = _ := hd ⟨15, .data⟩ (by simp) rfl
                have b60 : a'.tmps[60]?.getD undef = _ := hd ⟨16, .data⟩ (by simp) rfl
                go_simp
                exact hK _ _ (World.grownBy.refl _ _) rfl
              · refine Or.inl ⟨fun v w h => h, ?_⟩
                intro a' W hW hb hd K hK
                have b61 : a'.tmps[61]?.getD undef = _ := hd ⟨17, .data⟩ (by simp) rfl
                go_simp
                exact hK _ _ (World.grownBy.refl _ _) (by first | rfl | (rw [add_zero]; rfl) | (simp [add_zero]; rfl))
              · refine Or.inl ⟨fun v w h => h, ?_⟩
                intro a' W hW hb hd K hK
                have b62 : a'.tmps[62]?.getD undef = _ := hd ⟨18, .data⟩ (by simp) rfl
                have q1 : W.cell? (ad1.add (i * 65)) = some (.string px) := HX.out W hW.1
                go_simp
                exact hK _ _ (World.grownBy.refl _ _) rfl
              · refine Or.inl ⟨fun v w h => h, ?_⟩
                intro a' W hW hb hd K hK
                have b58 : a'.tmps[58]?.getD undef = _ := hd ⟨14, .data⟩ (by simp) rfl
                have b63 : a'.tmps[63]?.getD undef = _ := hd ⟨19, .data⟩ (by simp) rfl
                go_simp
                exact hK _ _ (World.grownBy.refl _ _) rfl
              · refine Or.inl ⟨fun v w h => h, ?_⟩
                intro a' W hW hb hd K hK
                have b53 : a'.tmps[53]?.getD undef = _ := hd ⟨9, .data⟩ (by simp) rfl
                have b64 : a'.tmps[64]?.getD undef = _ := hd ⟨20, .data⟩ (by simp) rfl
                go_simp
                exact hK _ _ (World.grownBy.refl _ _) rfl
            case fin =>
              intro vs V5 hV5 hv
              have e4 : vs 4 = _ := hv 4 (by decide)
              have e21 : vs 21 = _ := hv 21 (by decide)
              clear hv
              simp only [putAll, List.drop_succ_cons, List.drop_zero, e4, e21, Act.put, List.setIfInBounds_toArray, List.set_cons_succ, List.set_cons_zero]
              clear e4 e21
              go_wp2_with fail
              clear hV3
              have e1V5 : V5.cell? ⟨g1, 0, none⟩ = some (.slice (some ad1) a.length k1) := Cells.cell (hV5.1.at_ 0 rfl) (i := 0) (by simp)
              have e2V5 : V5.cell? ⟨g2, 0, none⟩ = some (.slice (some ad2) b.length k2) := Cells.cell (hV5.1.at_ 1 rfl) (i := 0) (by simp)
              obtain ⟨fn, tmps, assign, body, hy, hR⟩ := hY pre (It.l ⟨i, hi⟩) V5 hV5.2 HLEN.out
              simp only [encI, ptrA, Option.map_some] at hy
              gi_wp2
              clear e1V5 e2V5
              refine hR.mono ?_
              rintro e W' (⟨rfl, hJ', hk'⟩ | ⟨rfl, hJx'⟩)
              · gi_wp2
                go_roundw
                case rel => exact ⟨i + 1, j, pre ++ [(It.l ⟨i, hi⟩)], by omega, by omega, by first | rfl | go_num, by first | rfl | go_num, by rw [List.append_assoc, List.singleton_append, ← hbf.out]; exact HPRE.out, hJ', hk' hV5.1⟩
                case measure => simp [intOf]; omega
              · gi_wp2
                refine bodyPost_ret (results_none rfl _ _ _) rfl ?_
                exact ⟨⟨_, rfl⟩, .inr ⟨_, ⟨bothF a b (i + 1) (j), by rw [List.append_assoc, List.singleton_append, ← hbf.out]; exact HPRE.out⟩, hJx'⟩⟩
        | false =>
          cases v2 : Op.bytesLess py.toList px.toList with
          | true =>
            have v3 : (px.toList == py.toList) = false := by rw [toList_beq]; simp only [decide_eq_false_iff_not]; intro e; rw [e, less_irr] at v2; cases v2
            have v4 : (py.toList == px.toList) = false := by rw [toList_beq]; simp only [decide_eq_false_iff_not]; intro e; rw [e, less_irr] at v2; cases v2
            have hbf := Lib.hid (bothF_r hi hj (by rw [← hpx, ← hpy]; exact v1) (by rw [← hpx, ← hpy]; exact v2))
            have HLEN : Hid (pre.length < a.length + b.length) := Lib.hid (by have h1 := congrArg List.length HPRE.out; rw [hbf.out, List.length_append, List.length_cons] at h1; have h2 := HT.out; omega)
            clear hpx hpy
            have e1wr : wr.cell? ⟨g1, 0, none⟩ = some (.slice (some ad1) a.length k1) := Cells.cell (hI.at_ 0 rfl) (i := 0) (by simp)
            have e2wr : wr.cell? ⟨g2, 0, none⟩ = some (.slice (some ad2) b.length k2) := Cells.cell (hI.at_ 1 rfl) (i := 0) (by simp)
            gi_wp2
            clear e1wr e2wr
            refine wpIn_wide.2 ?_
            refine wp_region_hopsJ 22 (18 :: 19 :: 20 :: 21 :: 22 :: 23 :: 24 :: 25 :: 26 :: 27 :: 28 :: 29 :: 30 :: 31 :: 32 :: 33 :: 34 :: 35 :: 36 :: 37 :: 38 :: 39 :: []) [.cells g1 58 [.slice (some ad1) a.length k1], .cells g2 58 [.slice (some ad2) b.length k2], .low (.els B 65 (some ad1) a.length (a.map chgC)), .low (.els B 65 (some ad2) b.length (b.map chgC))] (fun W => J pre W)
              (.eq (.int .i64 j) :: .eq (.slice (some ad2) b.length k2) :: .eq (.int .i64 b.length) :: .eq (.bool false) :: .eq (.bool false) :: .eq (.int .i64 i) :: .eq (.slice (some ad1) a.length k1) :: .eq (.int .i64 a.length) :: .eq (.bool true) :: .eq (.bool true) :: .eq (.slice (some ad1) a.length k1) :: .eq (.int .i64 i) :: .eq (.pointer (some (ad1.add (i * 65)))) :: .eq (.pointer (some (ad1.add (i * 65)))) :: .eq (.string px) :: .eq (.slice (some ad2) b.length k2) :: .eq (.int .i64 j) :: .eq (.pointer (some (ad2.add (j * 65)))) :: .eq (.pointer (some (ad2.add (j * 65)))) :: .eq (.string py) :: .eq (.bool false) :: .eq (.bool false) :: [])
              (by kernel_rfl) (by kernel_rfl) (fun w1 w2 hg hj => hJ _ _ _ none hj hg (fun r e => by cases e)) ⟨hI, hJp⟩ rfl ?hops ?fin
            case hops =>
              refine ⟨?_, ?_, ?_, ?_, ?_, ?_, ?_, ?_, ?_, ?_, ?_, ?_, ?_, ?_, ?_, ?_, ?_, ?_, ?_, ?_, ?_, ?_, trivial⟩
              · intro a' W hW hb hd K hK
                have b5 := hb 5 rfl
                go_simp
                exact hK _ _ (World.grownBy.refl _ _) rfl
              · intro a' W hW hb hd K hK
                have b2 := hb 2 rfl
                have q1 : W.cell? ⟨g2, 0, none⟩ = some (.slice (some ad2) b.length k2) := Cells.cell (hW.1.at_ 1 rfl) (i := 0) (by simp)
                go_simp
                exact hK _ _ (World.grownBy.refl _ _) rfl
              · intro a' W hW hb hd K hK
                have b19 : a'.tmps[19]?.getD undef = _ := hd ⟨1, .data⟩ (by simp) rfl
                go_simp
                exact hK _ _ (World.grownBy.refl _ _) rfl
              · intro a' W hW hb hd K hK
                have b18 : a'.tmps[18]?.getD undef = _ := hd ⟨0, .data⟩ (by simp) rfl
                have b20 : a'.tmps[20]?.getD undef = _ := hd ⟨2, .data⟩ (by simp) rfl
                go_simp
                exact hK _ _ (World.grownBy.refl _ _) rfl
              · intro a' W hW hb hd K hK
                have b21 : a'.tmps[21]?.getD undef = _ := hd ⟨3, .data⟩ (by simp) rfl
                go_simp
                exact hK _ _ (World.grownBy.refl _ _) rfl
              · refine Or.inl ⟨fun v w h => h, ?_⟩
                intro a' W hW hb hd K hK
                have b4 := hb 4 rfl
                go_simp
                exact hK _ _ (World.grownBy.refl _ _) rfl
              · refine Or.inl ⟨fun v w h => h, ?_⟩
                intro a' W hW hb hd K hK
                have b1 := hb 1 rfl
                have q1 : W.cell? ⟨g1, 0, none⟩ = some (.slice (some ad1) a.length k1) := Cells.cell (hW.1.at_ 0 rfl) (i := 0) (by simp)
                go_simp
                exact hK _ _ (World.grownBy.refl _ _) rfl
              · refine Or.inl ⟨fun v w h => h, ?_⟩
                intro a' W hW hb hd K hK
                have b24 : a'.tmps[24]?.getD undef = _ := hd ⟨6, .data⟩ (by simp) rfl
                go_simp
                exact hK _ _ (World.grownBy.refl _ _) rfl
              · refine Or.inl ⟨fun v w h => h, ?_⟩
                intro a' W hW hb hd K hK
                have b23 : a'.tmps[23]?.getD undef = _ := hd ⟨5, .data⟩ (by simp) rfl
                have b25 : a'.tmps[25]?.getD undef = _ := hd ⟨7, .data⟩ (by simp) rfl
                go_simp
                exact hK _ _ (World.grownBy.refl _ _) rfl
              · refine Or.inl ⟨fun v w h => h, ?_⟩
                intro a' W hW hb hd K hK
                have b26 : a'.tmps[26]?.getD undef = _ := hd ⟨8, .data⟩ (by simp) rfl
                go_simp
                exact hK _ _ (World.grownBy.refl _ _) rfl
              · refine Or.inl ⟨fun v w h => h, ?_⟩
                intro a' W hW hb hd K hK
                have b1 := hb 1 rfl
                have q1 : W.cell? ⟨g1, 0, none⟩ = some (.slice (some ad1) a.length k1) := Cells.cell (hW.1.at_ 0 rfl) (i := 0) (by simp)
                go_simp
                exact hK _ _ (World.grownBy.refl _ _) rfl
              · refine Or.inl ⟨fun v w h => h, ?_⟩
                intro a' W hW hb hd K hK
                have b4 := hb 4 rfl
                go_simp
                exact hK _ _ (World.grownBy.refl _ _) rfl
              · refine Or.inl ⟨fun v w h => h, ?_⟩
                intro a' W hW hb hd K hK
                have b28 : a'.tmps[28]?.getD undef = _ := hd ⟨10, .data⟩ (by simp) rfl
                have b29 : a'.tmps[29]?.getD undef = _ := hd ⟨11, .data⟩ (by simp) rfl
                go_simp
                exact hK _ _ (World.grownBy.refl _ _) rfl
              · refine Or.inl ⟨fun v w h => h, ?_⟩
                intro a' W hW hb hd K hK
                have b30 : a'.tmps[30]?.getD undef = _ := hd ⟨12, .data⟩ (by simp) rfl
                go_simp
                exact hK _ _ (World.grownBy.refl _ _) (by first | rfl | (rw [add_zero]; rfl) | (simp [add_zero]; rfl))
              · refine Or.inl ⟨fun v w h => h, ?_⟩
                intro a' W hW hb hd K hK
                have b31 : a'.tmps[31]?.getD undef = _ := hd ⟨13, .data⟩ (by simp) rfl
                have q1 : W.cell? (ad1.add (i * 65)) = some (.string px) := HX.out W hW.1
                go_simp
                exact hK _ _ (World.grownBy.refl _ _) rfl
              · refine Or.inl ⟨fun v w h => h, ?_⟩
                intro a' W hW hb hd K hK
                have b2 := hb 2 rfl
                have q1 : W.cell? ⟨g2, 0, none⟩ = some (.slice (some ad2) b.length k2) := Cells.cell (hW.1.at_ 1 rfl) (i := 0) (by simp)
                go_simp
                exact hK _ _ (World.grownBy.refl _ _) rfl
              · refine Or.inl ⟨fun v w h => h, ?_⟩
                intro a' W hW hb hd K hK
                have b5 := hb 5 rfl
                go_simp
                exact hK _ _ (World.grownBy.refl _ _) rfl
              · refine Or.inl ⟨fun v w h => h, ?_⟩
                intro a' W hW hb hd K hK
                have b33 : a'.tmps[33]?.getD undef = _ := hd ⟨15, .data⟩ (by simp) rfl
                have b34 : a'.tmps[34]?.getD undef = _ := hd ⟨16, .data⟩ (by simp) rfl
                go_simp
                exact hK _ _ (World.grownBy.refl _ _) rfl
              · refine Or.inl ⟨fun v w h => h, ?_⟩
                intro a' W hW hb hd K hK
                have b35 : a'.tmps[35]?.getD undef = _ := hd ⟨17, .data⟩ (by simp) rfl
                go_simp
                exact hK _ _ (World.grownBy.refl _ _) (by first | rfl | (rw [add_zero]; rfl) | (simp [add_zero]; rfl))
              · refine Or.inl ⟨fun v w h => h, ?_⟩
                intro a' W hW hb hd K hK
                have b36 : a'.tmps[36]?.getD undef = _ := hd ⟨18, .data⟩ (by simp) rfl
                have q1 : W.cell? (ad2.add (j * 65)) = some (.string py) := HY.out W hW.1
                go_simp
                exact hK _ _ (World.grownBy.refl _ _) rfl
              · refine Or.inl ⟨fun v w h => h, ?_⟩
                intro a' W hW hb hd K hK
                have b32 : a'.tmps[32]?.getD undef = _ := hd ⟨14, .data⟩ (by simp) rfl
                have b37 : a'.tmps[37]?.getD undef = _ := hd ⟨19, .data⟩ (by simp) rfl
                go_simp
                exact hK _ _ (World.grownBy.refl _ _) rfl
              · refine Or.inl ⟨fun v w h => h, ?_⟩
                intro a' W hW hb hd K hK
                have b27 : a'.tmps[27]?.getD undef = _ := hd ⟨9, .data⟩ (by simp) rfl
                have b38 : a'.tmps[38]?.getD undef = _ := hd ⟨20, .data⟩ (by simp) rfl
                go_simp
                exact hK _ _ (World.grownBy.refl _ _) rfl
            case fin =>
              intro vs V3 hV3 hv
              have e4 : vs 4 = _ := hv 4 (by decide)
              have e21 : vs 21 = _ := hv 21 (by decide)
              clear hv
              simp only [putAll, List.drop_succ_cons, List.drop_zero, e4, e21, Act.put, List.setIfInBounds_toArray, List.set_cons_succ, List.set_cons_zero]
              clear e4 e21
              go_wp2_with fail
              clear hI hJp
              have e1V3 : V3.cell? ⟨g1, 0, none⟩ = some (.slice (some ad1) a.length k1) := Cells.cell (hV3.1.at_ 0 rfl) (i := 0) (by simp)
              have e2V3 : V3.cell? ⟨g2, 0, none⟩ = some (.slice (some ad2) b.length k2) := Cells.cell (hV3.1.at_ 1 rfl) (i := 0) (by simp)
              gi_wp2
              clear e1V3 e2V3
              refine wpIn_wide.2 ?_
              refine wp_region_hopsJ 22 (44 :: 45 :: 46 :: 47 :: 48 :: 49 :: 50 :: 51 :: 52 :: 53 :: 54 :: 55 :: 56 :: 57 :: 58 :: 59 :: 60 :: 61 :: 62 :: 63 :: 64 :: 65 :: []) [.cells g1 58 [.slice (some ad1) a.length k1], .cells g2 58 [.slice (some ad2) b.length k2], .low (.els B 65 (some ad1) a.length (a.map chgC)), .low (.els B 65 (some ad2) b.length (b.map chgC))] (fun W => J pre W)
                (.eq (.int .i64 i) :: .eq (.slice (some ad1) a.length k1) :: .eq (.int .i64 a.length) :: .eq (.bool false) :: .eq (.bool false) :: .eq (.int .i64 j) :: .eq (.slice (some ad2) b.length k2) :: .eq (.int .i64 b.length) :: .eq (.bool true) :: .eq (.bool true) :: .eq (.slice (some ad2) b.length k2) :: .eq (.int .i64 j) :: .eq (.pointer (some (ad2.add (j * 65)))) :: .eq (.pointer (some (ad2.add (j * 65)))) :: .eq (.string py) :: .eq (.slice (some ad1) a.length k1) :: .eq (.int .i64 i) :: .eq (.pointer (some (ad1.add (i * 65)))) :: .eq (.pointer (some (ad1.add (i * 65)))) :: .eq (.string px) :: .eq (.bool true) :: .eq (.bool true) :: [])
                (by kernel_rfl) (by kernel_rfl) (fun w1 w2 hg hj => hJ _ _ _ none hj hg (fun r e => by cases e)) hV3 rfl ?hops ?fin
              case hops =>
                refine ⟨?_, ?_, ?_, ?_, ?_, ?_, ?_, ?_, ?_, ?_, ?_, ?_, ?_, ?_, ?_, ?_, ?_, ?_, ?_, ?_, ?_, ?_, trivial⟩
                · intro a' W hW hb hd K hK
                  have b4 := hb 4 rfl
                  go_simp
                  exact hK _ _ (World.grownBy.refl _ _) rfl
                · intro a' W hW hb hd K hK
                  have b1 := hb 1 rfl
                  have q1 : W.cell? ⟨g1, 0, none⟩ = some (.slice (some ad1) a.length k1) := Cells.cell (hW.1.at_ 0 rfl) (i := 0) (by simp)
                  go_simp
                  exact hK _ _ (World.grownBy.refl _ _) rfl
                · intro a' W hW hb hd K hK
                  have b45 : a'.tmps[45]?.getD undef = _ := hd ⟨1, .data⟩ (by simp) rfl
                  go_simp
                  exact hK _ _ (World.grownBy.refl _ _) rfl
                · intro a' W hW hb hd K hK
                  have b44 : a'.tmps[44]?.getD undef = _ := hd ⟨0, .data⟩ (by simp) rfl
                  have b46 : a'.tmps[46]?.getD undef = _ := hd ⟨2, .data⟩ (by simp) rfl
                  go_simp
                  exact hK _ _ (World.grownBy.refl _ _) rfl
                · intro a' W hW hb hd K hK
                  have b47 : a'.tmps[47]?.getD undef = _ := hd ⟨3, .data⟩ (by simp) rfl
                  go_simp
                  exact hK _ _ (World.grownBy.refl _ _) rfl
                · refine Or.inl ⟨fun v w h => h, ?_⟩
                  intro a' W hW hb hd K hK
                  have b5 := hb 5 rfl
                  go_simp
                  exact hK _ _ (World.grownBy.refl _ _) rfl
                · refine Or.inl ⟨fun v w h => h, ?_⟩
                  intro a' W hW hb hd K hK
                  have b2 := hb 2 rfl
                  have q1 : W.cell? ⟨g2, 0, none⟩ = some (.slice (some ad2) b.length k2) := Cells.cell (hW.1.at_ 1 rfl) (i := 0) (by simp)
                  go_simp
                  exact hK _ _ (World.grownBy.refl _ _) rfl
                · refine Or.inl ⟨fun v w h => h, ?_⟩
                  intro a' W hW hb hd K hK
                  have b50 : a'.tmps[50]?.getD undef = _ := hd ⟨6, .data⟩ (by simp) rfl
                  go_simp
                  exact hK _ _ (World.grownBy.refl _ _) rfl
                · refine Or.inl ⟨fun v w h => h, ?_⟩
                  intro a' W hW hb hd K hK
                  have b49 : a'.tmps[49]?.getD undef = _ := hd ⟨5, .data⟩ (by simp) rfl
                  have b51 : a'.tmps[51]?.getD undef = _ := hd ⟨7, .data⟩ (by simp) rfl
                  go_simp
                  exact hK _ _ (World.grownBy.refl _ _) rfl
                · refine Or.inl ⟨fun v w h => h, ?_⟩
                  intro a' W hW hb hd K hK
                  have b52 : a'.tmps[52]?.getD undef = _ := hd ⟨8, .data⟩ (by simp) rfl
                  go_simp
                  exact hK _ _ (World.grownBy.refl _ _) rfl
                · refine Or.inl ⟨fun v w h => h, ?_⟩
                  intro a' W hW hb hd K hK
                  have b2 := hb 2 rfl
                  have q1 : W.cell? ⟨g2, 0, none⟩ = some (.slice (some ad2) b.length k2) := Cells.cell (hW.1.at_ 1 rfl) (i := 0) (by simp)
                  go_simp
                  exact hK _ _ (World.grownBy.refl _ _) rfl
                · refine Or.inl ⟨fun v w h => h, ?_⟩
                  intro a' W hW hb hd K hK
                  have b5 := hb 5 rfl
                  go_simp
                  exact hK _ _ (World.grownBy.refl _ _) rfl
                · refine Or.inl ⟨fun v w h => h, ?_⟩
                  intro a' W hW hb hd K hK
                  have b54 : a'.tmps[54]?.getD undef = _ := hd ⟨10, .data⟩ (by simp) rfl
                  have b55 : a'.tmps[55]?.getD undef = _ := hd ⟨11, .data⟩ (by simp) rfl
                  go_simp
                  exact hK _ _ (World.grownBy.refl _ _) rfl
                · refine Or.inl ⟨fun v w h => h, ?_⟩
                  intro a' W hW hb hd K hK
                  have b56 : a'.tmps[56]?.getD undef = _ := hd ⟨12, .data⟩ (by simp) rfl
                  go_simp
                  exact hK _ _ (World.grownBy.refl _ _) (by first | rfl | (rw [add_zero]; rfl) | (simp [add_zero]; rfl))
                · refine Or.inl ⟨fun v w h => h, ?_⟩
                  intro a' W hW hb hd K hK
                  have b57 : a'.tmps[57]?.getD undef = _ := hd ⟨13, .data⟩ (by simp) rfl
                  have q1 : W.cell? (ad2.add (j * 65)) = some (.string py) := HY.out W hW.1
                  go_simp
                  exact hK _ _ (World.grownBy.refl _ _) rfl
                · refine Or.inl ⟨fun v w h => h, ?_⟩
                  intro a' W hW hb hd K hK
                  have b1 := hb 1 rfl
                  have q1 : W.cell? ⟨g1, 0, none⟩ = some (.slice (some ad1) a.length k1) := Cells.cell (hW.1.at_ 0 rfl) (i := 0) (by simp)
                  go_simp
                  exact hK _ _ (World.grownBy.refl _ _) rfl
                · refine Or.inl ⟨fun v w h => h, ?_⟩
                  intro a' W hW hb hd K hK
                  have b4 := hb 4 rfl
                  go_simp
                  exact hK _ _ (World.grownBy.refl _ _) rfl
                · refine Or.inl ⟨fun v w h => h, ?_⟩
                  intro a' W hW hb hd K hK
                  have b59 : a'.tmps[59]?.getD undef = _ := hd ⟨15, .data⟩ (by simp) rfl
                  have b60 : a'.tmps[60]?.getD undef = _ := hd ⟨16, .data⟩ (by simp) rfl
                  go_simp
                  exact hK _ _ (World.grownBy.refl _ _) rfl
                · refine Or.inl ⟨fun v w h => h, ?_⟩
                  intro a' W hW hb hd K hK
                  have b61 : a'.tmps[61]?.getD undef = _ := hd ⟨17, .data⟩ (by simp) rfl
                  go_simp
                  exact hK _ _ (World.grownBy.refl _ _) (by first | rfl | (rw [add_zero]; rfl) | (simp [add_zero]; rfl))
                · refine Or.inl ⟨fun v w h => h, ?_⟩
                  intro a' W hW hb hd K hK
                  have b62 : a'.tmps[62]?.getD undef = _ := hd ⟨18, .data⟩ (by simp) rfl
                  have q1 : W.cell? (ad1.add (i * 65)) = some (.string px) := HX.out W hW.1
                  go_simp
                  exact hK _ _ (World.grownBy.refl _ _) rfl
                · refine Or.inl ⟨fun v w h => h, ?_⟩
                  intro a' W hW hb hd K hK
                  have b58 : a'.tmps[58]?.getD undef = _ := hd ⟨14, .data⟩ (by simp) rfl
                  have b63 : a'.tmps[63]?.getD undef = _ := hd ⟨19, .data⟩ (by simp) rfl
                  go_simp
                  exact hK _ _ (World.grownBy.refl _ _) rfl
                · refine Or.inl ⟨fun v w h => h, ?_⟩
                  intro a' W hW hb hd K hK
                  have b53 : a'.tmps[53]?.getD undef = _ := hd ⟨9, .data⟩ (by simp) rfl
                  have b64 : a'.tmps[64]?.getD undef = _ := hd ⟨20, .data⟩ (by simp) rfl
                  go_simp
                  exact hK _ _ (World.grownBy.refl _ _) rfl
              case fin =>
                intro vs V5 hV5 hv
                have e4 : vs 4 = _ := hv 4 (by decide)
                have e21 : vs 21 = _ := hv 21 (by decide)
                clear hv
                simp only [putAll, List.drop_succ_cons, List.drop_zero, e4, e21, Act.put, List.setIfInBounds_toArray, List.set_cons_succ, List.set_cons_zero]
                clear e4 e21
                go_wp2_with fail
                clear hV3
                have e1V5 : V5.cell? ⟨g1, 0, none⟩ = some (.slice (some ad1) a.length k1) := Cells.cell (hV5.1.at_ 0 rfl) (i := 0) (by simp)
                have e2V5 : V5.cell? ⟨g2, 0, none⟩ = some (.slice (some ad2) b.length k2) := Cells.cell (hV5.1.at_ 1 rfl) (i := 0) (by simp)
                obtain ⟨fn, tmps, assign, body, hy, hR⟩ := hY pre (It.r ⟨j, hj⟩) V5 hV5.2 HLEN.out
                simp only [encI, ptrA, Option.map_some] at hy
                gi_wp2
                clear e1V5 e2V5
                refine hR.mono ?_
                rintro e W' (⟨rfl, hJ', hk'⟩ | ⟨rfl, hJx'⟩)
                · gi_wp2
                  go_roundw
                  case rel => exact ⟨i, j + 1, pre ++ [(It.r ⟨j, hj⟩)], by omega, by omega, by first | rfl | go_num, by first | rfl | go_num, by rw [List.append_assoc, List.singleton_append, ← hbf.out]; exact HPRE.out, hJ', hk' hV5.1⟩
                  case measure => simp [intOf]; omega
                · gi_wp2
                  refine bodyPost_ret (results_none rfl _ _ _) rfl ?_
                  exact ⟨⟨_, rfl⟩, .inr ⟨_, ⟨bothF a b (i) (j + 1), by rw [List.append_assoc, List.singleton_append, ← hbf.out]; exact HPRE.out⟩, hJx'⟩⟩
          | false =>
            have v3 : (px.toList == py.toList) = true := by rw [toList_beq]; simp only [decide_eq_true_eq]; exact sto_blt.eq v1 v2
            have v4 : (py.toList == px.toList) = true := by rw [toList_beq]; simp only [decide_eq_true_eq]; exact (sto_blt.eq v1 v2).symm
            have hbf := Lib.hid (bothF_e hi hj (by rw [← hpx, ← hpy]; exact v1) (by rw [← hpx, ← hpy]; exact v2))
            have HLEN : Hid (pre.length < a.length + b.length) := Lib.hid (by have h1 := congrArg List.length HPRE.out; rw [hbf.out, List.length_append, List.length_cons] at h1; have h2 := HT.out; omega)
            clear hpx hpy
            have e1wr : wr.cell? ⟨g1, 0, none⟩ = some (.slice (some ad1) a.length k1) := Cells.cell (hI.at_ 0 rfl) (i := 0) (by simp)
            have e2wr : wr.cell? ⟨g2, 0, none⟩ = some (.slice (some ad2) b.length k2) := Cells.cell (hI.at_ 1 rfl) (i := 0) (by simp)
            gi_wp2
            clear e1wr e2wr
            refine wpIn_wide.2 ?_
            refine wp_region_hopsJ 22 (18 :: 19 :: 20 :: 21 :: 22 :: 23 :: 24 :: 25 :: 26 :: 27 :: 28 :: 29 :: 30 :: 31 :: 32 :: 33 :: 34 :: 35 :: 36 :: 37 :: 38 :: 39 :: []) [.cells g1 58 [.slice (some ad1) a.length k1], .cells g2 58 [.slice (some ad2) b.length k2], .low (.els B 65 (some ad1) a.length (a.map chgC)), .low (.els B 65 (some ad2) b.length (b.map chgC))] (fun W => J pre W)
              (.eq (.int .i64 j) :: .eq (.slice (some ad2) b.length k2) :: .eq (.int .i64 b.length) :: .eq (.bool false) :: .eq (.bool false) :: .eq (.int .i64 i) :: .eq (.slice (some ad1) a.length k1) :: .eq (.int .i64 a.length) :: .eq (.bool true) :: .eq (.bool true) :: .eq (.slice (some ad1) a.length k1) :: .eq (.int .i64 i) :: .eq (.pointer (some (ad1.add (i * 65)))) :: .eq (.pointer (some (ad1.add (i * 65)))) :: .eq (.string px) :: .eq (.slice (some ad2) b.length k2) :: .eq (.int .i64 j) :: .eq (.pointer (some (ad2.add (j * 65)))) :: .eq (.pointer (some (ad2.add (j * 65)))) :: .eq (.string py) :: .eq (.bool true) :: .eq (.bool true) :: [])
              (by kernel_rfl) (by kernel_rfl) (fun w1 w2 hg hj => hJ _ _ _ none hj hg (fun r e => by cases e)) ⟨hI, hJp⟩ rfl ?hops ?fin
            case hops =>
              refine ⟨?_, ?_, ?_, ?_, ?_, ?_, ?_, ?_, ?_, ?_, ?_, ?_, ?_, ?_, ?_, ?_, ?_, ?_, ?_, ?_, ?_, ?_, trivial⟩
              · intro a' W hW hb hd K hK
                have b5 := hb 5 rfl
                go_simp
                exact hK _ _ (World.grownBy.refl _ _) rfl
              · intro a' W hW hb hd K hK
                have b2 := hb 2 rfl
                have q1 : W.cell? ⟨g2, 0, none⟩ = some (.slice (some ad2) b.length k2) := Cells.cell (hW.1.at_ 1 rfl) (i := 0) (by simp)
                go_simp
                exact hK _ _ (World.grownBy.refl _ _) rfl
              · intro a' W hW hb hd K hK
                have b19 : a'.tmps[19]?.getD undef = _ := hd ⟨1, .data⟩ (by simp) rfl
                go_simp
                exact hK _ _ (World.grownBy.refl _ _) rfl
              · intro a' W hW hb hd K hK
                have b18 : a'.tmps[18]?.getD undef = _ := hd ⟨0, .data⟩ (by simp) rfl
                have b20 : a'.tmps[20]?.getD undef = _ := hd ⟨2, .data⟩ (by simp) rfl
                go_simp
                exact hK _ _ (World.grownBy.refl _ _) rfl
              · intro a' W hW hb hd K hK
                have b21 : a'.tmps[21]?.getD undef = _ := hd ⟨3, .data⟩ (by simp) rfl
                go_simp
                exact hK _ _ (World.grownBy.refl _ _) rfl
              · refine Or.inl ⟨fun v w h => h, ?_⟩
                intro a' W hW hb hd K hK
                have b4 := hb 4 rfl
                go_simp
                exact hK _ _ (World.grownBy.refl _ _) rfl
              · refine Or.inl ⟨fun v w h => h, ?_⟩
                intro a' W hW hb hd K hK
                have b1 := hb 1 rfl
                have q1 : W.cell? ⟨g1, 0, none⟩ = some (.slice (some ad1) a.length k1) := Cells.cell (hW.1.at_ 0 rfl) (i := 0) (by simp)
                go_simp
                exact hK _ _ (World.grownBy.refl _ _) rfl
              · refine Or.inl ⟨fun v w h => h, ?_⟩
                intro a' W hW hb hd K hK
                have b24 : a'.tmps[24]?.getD undef = _ := hd ⟨6, .data⟩ (by simp) rfl
                go_simp
                exact hK _ _ (World.grownBy.refl _ _) rfl
              · refine Or.inl ⟨fun v w h => h, ?_⟩
                intro a' W hW hb hd K hK
                have b23 : a'.tmps[23]?.getD undef = _ := hd ⟨5, .data⟩ (by simp) rfl
                have b25 : a'.tmps[25]?.getD undef = _ := hd ⟨7, .data⟩ (by simp) rfl
                go_simp
                exact hK _ _ (World.grownBy.refl _ _) rfl
              · refine Or.inl ⟨fun v w h => h, ?_⟩
                intro a' W hW hb hd K hK
                have b26 : a'.tmps[26]?.getD undef = _ := hd ⟨8, .data⟩ (by simp) rfl
                go_simp
                exact hK _ _ (World.grownBy.refl _ _) rfl
              · refine Or.inl ⟨fun v w h => h, ?_⟩
                intro a' W hW hb hd K hK
                have b1 := hb 1 rfl
                have q1 : W.cell? ⟨g1, 0, none⟩ = some (.slice (some ad1) a.length k1) := Cells.cell (hW.1.at_ 0 rfl) (i := 0) (by simp)
                go_simp
                exact hK _ _ (World.grownBy.refl _ _) rfl
              · refine Or.inl ⟨fun v w h => h, ?_⟩
                intro a' W hW hb hd K hK
                have b4 := hb 4 rfl
                go_simp
                exact hK _ _ (World.grownBy.refl _ _) rfl
              · refine Or.inl ⟨fun v w h => h, ?_⟩
                intro a' W hW hb hd K hK
                have b28 : a'.tmps[28]?.getD undef = _ := hd ⟨10, .data⟩ (by simp) rfl
                have b29 : a'.tmps[29]?.getD undef = _ := hd ⟨11, .data⟩ (by simp) rfl
                go_simp
                exact hK _ _ (World.grownBy.refl _ _) rfl
              · refine Or.inl ⟨fun v w h => h, ?_⟩
                intro a' W hW hb hd K hK
                have b30 : a'.tmps[30]?.getD undef = _ := hd ⟨12, .data⟩ (by simp) rfl
                go_simp
                exact hK _ _ (World.grownBy.refl _ _) (by first | rfl | (rw [add_zero]; rfl) | (simp [add_zero]; rfl))
              · refine Or.inl ⟨fun v w h => h, ?_⟩
                intro a' W hW hb hd K hK
                have b31 : a'.tmps[31]?.getD undef = _ := hd ⟨13, .data⟩ (by simp) rfl
                have q1 : W.cell? (ad1.add (i * 65)) = some (.string px) := HX.out W hW.1
                go_simp
                exact hK _ _ (World.grownBy.refl _ _) rfl
              · refine Or.inl ⟨fun v w h => h, ?_⟩
                intro a' W hW hb hd K hK
                have b2 := hb 2 rfl
                have q1 : W.cell? ⟨g2, 0, none⟩ = some (.slice (some ad2) b.length k2) := Cells.cell (hW.1.at_ 1 rfl) (i := 0) (by simp)
                go_simp
                exact hK _ _ (World.grownBy.refl _ _) rfl
              · refine Or.inl ⟨fun v w h => h, ?_⟩
                intro a' W hW hb hd K hK
                have b5 := hb 5 rfl
                go_simp
                exact hK _ _ (World.grownBy.refl _ _) rfl
              · refine Or.inl ⟨fun v w h => h, ?_⟩
                intro a' W hW hb hd K hK
                have b33 : a'.tmps[33]?.getD undef = _ := hd ⟨15, .data⟩ (by simp) rfl
                have b34 : a'.tmps[34]?.getD undef = _ := hd ⟨16, .data⟩ (by simp) rfl
                go_simp
                exact hK _ _ (World.grownBy.refl _ _) rfl
              · refine Or.inl ⟨fun v w h => h, ?_⟩
                intro a' W hW hb hd K hK
                have b35 : a'.tmps[35]?.getD undef = _ := hd ⟨17, .data⟩ (by simp) rfl
                go_simp
                exact hK _ _ (World.grownBy.refl _ _) (by first | rfl | (rw [add_zero]; rfl) | (simp [add_zero]; rfl))
              · refine Or.inl ⟨fun v w h => h, ?_⟩
                intro a' W hW hb hd K hK
                have b36 : a'.tmps[36]?.getD undef = _ := hd ⟨18, .data⟩ (by simp) rfl
                have q1 : W.cell? (ad2.add (j * 65)) = some (.string py) := HY.out W hW.1
                go_simp
                exact hK _ _ (World.grownBy.refl _ _) rfl
              · refine Or.inl ⟨fun v w h => h, ?_⟩
                intro a' W hW hb hd K hK
                have b32 : a'.tmps[32]?.getD undef = _ := hd ⟨14, .data⟩ (by simp) rfl
                have b37 : a'.tmps[37]?.getD undef = _ := hd ⟨19, .data⟩ (by simp) rfl
                go_simp
                exact hK _ _ (World.grownBy.refl _ _) rfl
              · refine Or.inl ⟨fun v w h => h, ?_⟩
                intro a' W hW hb hd K hK
                have b27 : a'.tmps[27]?.getD undef = _ := hd ⟨9, .data⟩ (by simp) rfl
                have b38 : a'.tmps[38]?.getD undef = _ := hd ⟨20, .data⟩ (by simp) rfl
                go_simp
                exact hK _ _ (World.grownBy.refl _ _) rfl
            case fin =>
              intro vs V3 hV3 hv
              have e4 : vs 4 = _ := hv 4 (by decide)
              have e21 : vs 21 = _ := hv 21 (by decide)
              clear hv
              simp only [putAll, List.drop_succ_cons, List.drop_zero, e4, e21, Act.put, List.setIfInBounds_toArray, List.set_cons_succ, List.set_cons_zero]
              clear e4 e21
              go_wp2_with fail
              clear hI hJp
              have e1V3 : V3.cell? ⟨g1, 0, none⟩ = some (.slice (some ad1) a.length k1) := Cells.cell (hV3.1.at_ 0 rfl) (i := 0) (by simp)
              have e2V3 : V3.cell? ⟨g2, 0, none⟩ = some (.slice (some ad2) b.length k2) := Cells.cell (hV3.1.at_ 1 rfl) (i := 0) (by simp)
              gi_wp2
              clear e1V3 e2V3
              refine wpIn_wide.2 ?_
              refine wp_region_hopsJ 22 (44 :: 45 :: 46 :: 47 :: 48 :: 49 :: 50 :: 51 :: 52 :: 53 :: 54 :: 55 :: 56 :: 57 :: 58 :: 59 :: 60 :: 61 :: 62 :: 63 :: 64 :: 65 :: []) [.cells g1 58 [.slice (some ad1) a.length k1], .cells g2 58 [.slice (some ad2) b.length k2], .low (.els B 65 (some ad1) a.length (a.map chgC)), .low (.els B 65 (some ad2) b.length (b.map chgC))] (fun W => J pre W)
                (.eq (.int .i64 i) :: .eq (.slice (some ad1) a.length k1) :: .eq (.int .i64 a.length) :: .eq (.bool false) :: .eq (.bool false) :: .eq (.int .i64 j) :: .eq (.slice (some ad2) b.length k2) :: .eq (.int .i64 b.length) :: .eq (.bool true) :: .eq (.bool true) :: .eq (.slice (some ad2) b.length k2) :: .eq (.int .i64 j) :: .eq (.pointer (some (ad2.add (j * 65)))) :: .eq (.pointer (some (ad2.add (j * 65)))) :: .eq (.string py) :: .eq (.slice (some ad1) a.length k1) :: .eq (.int .i64 i) :: .eq (.pointer (some (ad1.add (i * 65)))) :: .eq (.pointer (some (ad1.add (i * 65)))) :: .eq (.string px) :: .eq (.bool true) :: .eq (.bool true) :: [])
                (by kernel_rfl) (by kernel_rfl) (fun w1 w2 hg hj => hJ _ _ _ none hj hg (fun r e => by cases e)) hV3 rfl ?hops ?fin
              case hops =>
                refine ⟨?_, ?_, ?_, ?_, ?_, ?_, ?_, ?_, ?_, ?_, ?_, ?_, ?_, ?_, ?_, ?_, ?_, ?_, ?_, ?_, ?_, ?_, trivial⟩
                · intro a' W hW hb hd K hK
                  have b4 := hb 4 rfl
                  go_simp
                  exact hK _ _ (World.grownBy.refl _ _) rfl
                · intro a' W hW hb hd K hK
                  have b1 := hb 1 rfl
                  have q1 : W.cell? ⟨g1, 0, none⟩ = some (.slice (some ad1) a.length k1) := Cells.cell (hW.1.at_ 0 rfl) (i := 0) (by simp)
                  go_simp
                  exact hK _ _ (World.grownBy.refl _ _) rfl
                · intro a' W hW hb hd K hK
                  have b45 : a'.tmps[45]?.getD undef = _ := hd ⟨1, .data⟩ (by simp) rfl
                  go_simp
                  exact hK _ _ (World.grownBy.refl _ _) rfl
                · intro a' W hW hb hd K hK
                  have b44 : a'.tmps[44]?.getD undef = _ := hd ⟨0, .data⟩ (by simp) rfl
                  have b46 : a'.tmps[46]?.getD undef = _ := hd ⟨2, .data⟩ (by simp) rfl
                  go_simp
                  exact hK _ _ (World.grownBy.refl _ _) rfl
                · intro a' W hW hb hd K hK
                  have b47 : a'.tmps[47]?.getD undef = _ := hd ⟨3, .data⟩ (by simp) rfl
                  go_simp
                  exact hK _ _ (World.grownBy.refl _ _) rfl
                · refine Or.inl ⟨fun v w h => h, ?_⟩
                  intro a' W hW hb hd K hK
                  have b5 := hb 5 rfl
                  go_simp
                  exact hK _ _ (World.grownBy.refl _ _) rfl
                · refine Or.inl ⟨fun v w h => h, ?_⟩
                  intro a' W hW hb hd K hK
                  have b2 := hb 2 rfl
                  have q1 : W.cell? ⟨g2, 0, none⟩ = some (.slice (some ad2) b.length k2) := Cells.cell (hW.1.at_ 1 rfl) (i := 0) (by simp)
                  go_simp
                  exact hK _ _ (World.grownBy.refl _ _) rfl
                · refine Or.inl ⟨fun v w h => h, ?_⟩
                  intro a' W hW hb hd K hK
                  have b50 : a'.tmps[50]?.getD undef = _ := hd ⟨6, .data⟩ (by simp) rfl
                  go_simp
                  exact hK _ _ (World.grownBy.refl _ _) rfl
                · refine Or.inl ⟨fun v w h => h, ?_⟩
                  intro a' W hW hb hd K hK
                  have b49 : a'.tmps[49]?.getD undef = _ := hd ⟨5, .data⟩ (by simp) rfl
                  have b51 : a'.tmps[51]?.getD undef = _ := hd ⟨7, .data⟩ (by simp) rfl
                  go_simp
                  exact hK _ _ (World.grownBy.refl _ _) rfl
                · refine Or.inl ⟨fun v w h => h, ?_⟩
                  intro a' W hW hb hd K hK
                  have b52 : a'.tmps[52]?.getD undef = _ := hd ⟨8, .data⟩ (by simp) rfl
                  go_simp
                  exact hK _ _ (World.grownBy.refl _ _) rfl
                · refine Or.inl ⟨fun v w h => h, ?_⟩
                  intro a' W hW hb hd K hK
                  have b2 := hb 2 rfl
                  have q1 : W.cell? ⟨g2, 0, none⟩ = some (.slice (some ad2) b.length k2) := Cells.cell (hW.1.at_ 1 rfl) (i := 0) (by simp)
                  go_simp
                  exact hK _ _ (World.grownBy.refl _ _) rfl
                · refine Or.inl ⟨fun v w h => h, ?_⟩
                  intro a' W hW hb hd K hK
                  have b5 := hb 5 rfl
                  go_simp
                  exact hK _ _ (World.grownBy.refl _ _) rfl
                · refine Or.inl ⟨fun v w h => h, ?_⟩
                  intro a' W hW hb hd K hK
                  have b54 : a'.tmps[54]?.getD undef = _ := hd ⟨10, .data⟩ (by simp) rfl
                  have b55 : a'.tmps[55]?.getD undef = _ := hd ⟨11, .data⟩ (by simp) rfl
                  go_simp
                  exact hK _ _ (World.grownBy.refl _ _) rfl
                · refine Or.inl ⟨fun v w h => h, ?_⟩
                  intro a' W hW hb hd K hK
                  have b56 : a'.tmps[56]?.getD undef = _ := hd ⟨12, .data⟩ (by simp) rfl
                  go_simp
                  exact hK _ _ (World.grownBy.refl _ _) (by first | rfl | (rw [add_zero]; rfl) | (simp [add_zero]; rfl))
                · refine Or.inl ⟨fun v w h => h, ?_⟩
                  intro a' W hW hb hd K hK
                  have b57 : a'.tmps[57]?.getD undef = _ := hd ⟨13, .data⟩ (by simp) rfl
                  have q1 : W.cell? (ad2.add (j * 65)) = some (.string py) := HY.out W hW.1
                  go_simp
                  exact hK _ _ (World.grownBy.refl _ _) rfl
                · refine Or.inl ⟨fun v w h => h, ?_⟩
                  intro a' W hW hb hd K hK
                  have b1 := hb 1 rfl
                  have q1 : W.cell? ⟨g1, 0, none⟩ = some (.slice (some ad1) a.length k1) := Cells.cell (hW.1.at_ 0 rfl) (i := 0) (by simp)
                  go_simp
                  exact hK _ _ (World.grownBy.refl _ _) rfl
                · refine Or.inl ⟨fun v w h => h, ?_⟩
                  intro a' W hW hb hd K hK
                  have b4 := hb 4 rfl
                  go_simp
                  exact hK _ _ (World.grownBy.refl _ _) rfl
                · refine Or.inl ⟨fun v w h => h, ?_⟩
                  intro a' W hW hb hd K hK
                  have b59 : a'.tmps[59]?.getD undef = _ := hd ⟨15, .data⟩ (by simp) rfl
                  have b60 : a'.tmps[60]?.getD undef = _ := hd ⟨16, .data⟩ (by simp) rfl
                  go_simp
                  exact hK _ _ (World.grownBy.refl _ _) rfl
                · refine Or.inl ⟨fun v w h => h, ?_⟩
                  intro a' W hW hb hd K hK
                  have b61 : a'.tmps[61]?.getD undef = _ := hd ⟨17, .data⟩ (by simp) rfl
                  go_simp
                  exact hK _ _ (World.grownBy.refl _ _) (by first | rfl | (rw [add_zero]; rfl) | (simp [add_zero]; rfl))
                · refine Or.inl ⟨fun v w h => h, ?_⟩
                  intro a' W hW hb hd K hK
                  have b62 : a'.tmps[62]?.getD undef = _ := hd ⟨18, .data⟩ (by simp) rfl
                  have q1 : W.cell? (ad1.add (i * 65)) = some (.string px) := HX.out W hW.1
                  go_simp
                  exact hK _ _ (World.grownBy.refl _ _) rfl
                · refine Or.inl ⟨fun v w h => h, ?_⟩
                  intro a' W hW hb hd K hK
                  have b58 : a'.tmps[58]?.getD undef = _ := hd ⟨14, .data⟩ (by simp) rfl
                  have b63 : a'.tmps[63]?.getD undef = _ := hd ⟨19, .data⟩ (by simp) rfl
                  go_simp
                  exact hK _ _ (World.grownBy.refl _ _) rfl
                · refine Or.inl ⟨fun v w h => h, ?_⟩
                  intro a' W hW hb hd K hK
                  have b53 : a'.tmps[53]?.getD undef = _ := hd ⟨9, .data⟩ (by simp) rfl
                  have b64 : a'.tmps[64]?.getD undef = _ := hd ⟨20, .data⟩ (by simp) rfl
                  go_simp
                  exact hK _ _ (World.grownBy.refl _ _) rfl
              case fin =>
                intro vs V5 hV5 hv
                have e4 : vs 4 = _ := hv 4 (by decide)
                have e21 : vs 21 = _ := hv 21 (by decide)
                clear hv
                simp only [putAll, List.drop_succ_cons, List.drop_zero, e4, e21, Act.put, List.setIfInBounds_toArray, List.set_cons_succ, List.set_cons_zero]
                clear e4 e21
                go_wp2_with fail
                clear hV3
                have e1V5 : V5.cell? ⟨g1, 0, none⟩ = some (.slice (some ad1) a.length k1) := Cells.cell (hV5.1.at_ 0 rfl) (i := 0) (by simp)
                have e2V5 : V5.cell? ⟨g2, 0, none⟩ = some (.slice (some ad2) b.length k2) := Cells.cell (hV5.1.at_ 1 rfl) (i := 0) (by simp)
                obtain ⟨fn, tmps, assign, body, hy, hR⟩ := hY pre (It.e ⟨i, hi⟩ ⟨j, hj⟩) V5 hV5.2 HLEN.out
                simp only [encI, ptrA, Option.map_some] at hy
                gi_wp2
                clear e1V5 e2V5
                refine hR.mono ?_
                rintro e W' (⟨rfl, hJ', hk'⟩ | ⟨rfl, hJx'⟩)
                · gi_wp2
                  go_roundw
                  case rel => exact ⟨i + 1, j + 1, pre ++ [(It.e ⟨i, hi⟩ ⟨j, hj⟩)], by omega, by omega, by first | rfl | go_num, by first | rfl | go_num, by rw [List.append_assoc, List.singleton_append, ← hbf.out]; exact HPRE.out, hJ', hk' hV5.1⟩
                  case measure => simp [intOf]; omega
                · gi_wp2
                  refine bodyPost_ret (results_none rfl _ _ _) rfl ?_
                  exact ⟨⟨_, rfl⟩, .inr ⟨_, ⟨bothF a b (i + 1) (j + 1), by rw [List.append_assoc, List.singleton_append, ← hbf.out]; exact HPRE.out⟩, hJx'⟩⟩
      · obtain ⟨ad1, rfl, -, -⟩ := Els.elem (hI.at_ 2 rfl : Els wr B 65 A1 a.length (a.map chgC) ∧ B ≤ wr.heap.size).1 hi
        have hadd := hia
        have di : decide ((i : Int) < (a.length : Int)) = true := by simp; omega
        have dj : decide ((j : Int) < (b.length : Int)) = false := by simp; omega
        have qi : (((i : Int)) == (a.length : Int)) = false := by simp; omega
        have qj : (((j : Int)) == (b.length : Int)) = true := by simp; omega
        have wi0 : (0 : Int) ≤ (i : Int) := by omega
        have wi1 : (i : Int) < (a.length : Int) := by omega
        have wi2 : ((i : Int)).toNat = i := by omega
        have wi3 : IntKind.i64.wrap ((i : Int) + 1) = (i : Int) + 1 := IntWalk.i64_in _ (by omega)
        have hbf := Lib.hid (bothF_l0 hi hj)
        have HLEN : Hid (pre.length < a.length + b.length) := Lib.hid (by have h1 := congrArg List.length HPRE.out; rw [hbf.out, List.length_append, List.length_cons] at h1; have h2 := HT.out; omega)
        have e1wr : wr.cell? ⟨g1, 0, none⟩ = some (.slice (some ad1) a.length k1) := Cells.cell (hI.at_ 0 rfl) (i := 0) (by simp)
        have e2wr : wr.cell? ⟨g2, 0, none⟩ = some (.slice A2 b.length k2) := Cells.cell (hI.at_ 1 rfl) (i := 0) (by simp)
        gi_wp2
        clear e1wr e2wr
        refine wpIn_wide.2 ?_
        refine wp_region_hopsJ 22 (18 :: 19 :: 20 :: 21 :: 22 :: 23 :: 24 :: 25 :: 26 :: 27 :: 28 :: 29 :: 30 :: 31 :: 32 :: 33 :: 34 :: 35 :: 36 :: 37 :: 38 :: 39 :: []) [.cells g1 58 [.slice (some ad1) a.length k1], .cells g2 58 [.slice A2 b.length k2], .low (.els B 65 (some ad1) a.length (a.map chgC)), .low (.els B 65 A2 b.length (b.map chgC))] (fun W => J pre W)
          (.eq (.int .i64 j) :: .eq (.slice A2 b.length k2) :: .eq (.int .i64 b.length) :: .eq (.bool true) :: .eq (.bool true) :: .eq undef :: .eq undef :: .eq undef :: .eq undef :: .eq undef :: .eq undef :: .eq undef :: .eq undef :: .eq undef :: .eq undef :: .eq undef :: .eq undef :: .eq undef :: .eq undef :: .eq undef :: .eq undef :: .eq undef :: [])
          (by kernel_rfl) (by kernel_rfl) (fun w1 w2 hg hj => hJ _ _ _ none hj hg (fun r e => by cases e)) ⟨hI, hJp⟩ rfl ?hops ?fin
        case hops =>
          refine ⟨?_, ?_, ?_, ?_, ?_, ?_, ?_, ?_, ?_, ?_, ?_, ?_, ?_, ?_, ?_, ?_, ?_, ?_, ?_, ?_, ?_, ?_, trivial⟩
          · intro a' W hW hb hd K hK
            have b5 := hb 5 rfl
            go_simp
            exact hK _ _ (World.grownBy.refl _ _) rfl
          · intro a' W hW hb hd K hK
            have b2 := hb 2 rfl
            have q1 : W.cell? ⟨g2, 0, none⟩ = some (.slice A2 b.length k2) := Cells.cell (hW.1.at_ 1 rfl) (i := 0) (by simp)
            go_simp
            exact hK _ _ (World.grownBy.refl _ _) rfl
          · intro a' W hW hb hd K hK
            have b19 : a'.tmps[19]?.getD undef = _ := hd ⟨1, .data⟩ (by simp) rfl
            go_simp
            exact hK _ _ (World.grownBy.refl _ _) rfl
          · intro a' W hW hb hd K hK
            have b18 : a'.tmps[18]?.getD undef = _ := hd ⟨0, .data⟩ (by simp) rfl
            have b20 : a'.tmps[20]?.getD undef = _ := hd ⟨2, .data⟩ (by simp) rfl
            go_simp
            exact hK _ _ (World.grownBy.refl _ _) rfl
          · intro a' W hW hb hd K hK
            have b21 : a'.tmps[21]?.getD undef = _ := hd ⟨3, .data⟩ (by simp) rfl
            go_simp
            exact hK _ _ (World.grownBy.refl _ _) rfl
          · exact Or.inr ⟨fun v w h => by rw [show v = _ from h]; first | (intro h2; cases h2) | (simp [undef]), fun w => rfl⟩
          · exact Or.inr ⟨fun v w h => by rw [show v = _ from h]; first | (intro h2; cases h2) | (simp [undef]), fun w => rfl⟩
          · exact Or.inr ⟨fun v w h => by rw [show v = _ from h]; first | (intro h2; cases h2) | (simp [undef]), fun w => rfl⟩
          · exact Or.inr ⟨fun v w h => by rw [show v = _ from h]; first | (intro h2; cases h2) | (simp [undef]), fun w => rfl⟩
          · exact Or.inr ⟨fun v w h => by rw [show v = _ from h]; first | (intro h2; cases h2) | (simp [undef]), fun w => rfl⟩
          · exact Or.inr ⟨fun v w h => by rw [show v = _ from h]; first | (intro h2; cases h2) | (simp [undef]), fun w => rfl⟩
          · exact Or.inr ⟨fun v w h => by rw [show v = _ from h]; first | (intro h2; cases h2) | (simp [undef]), fun w => rfl⟩
          · exact Or.inr ⟨fun v w h => by rw [show v = _ from h]; first | (intro h2; cases h2) | (simp [undef]), fun w => rfl⟩
          · exact Or.inr ⟨fun v w h => by rw [show v = _ from h]; first | (intro h2; cases h2) | (simp [undef]), fun w => rfl⟩
          · exact Or.inr ⟨fun v w h => by rw [show v = _ from h]; first | (intro h2; cases h2) | (simp [undef]), fun w => rfl⟩
          · exact Or.inr ⟨fun v w h => by rw [show v = _ from h]; first | (intro h2; cases h2) | (simp [undef]), fun w => rfl⟩
          · exact Or.inr ⟨fun v w h => by rw [show v = _ from h]; first | (intro h2; cases h2) | (simp [undef]), fun w => rfl⟩
          · exact Or.inr ⟨fun v w h => by rw [show v = _ from h]; first | (intro h2; cases h2) | (simp [undef]), fun w => rfl⟩
          · exact Or.inr ⟨fun v w h => by rw [show v = _ from h]; first | (intro h2; cases h2) | (simp [undef]), fun w => rfl⟩
          · exact Or.inr ⟨fun v w h => by rw [show v = _ from h]; first | (intro h2; cases h2) | (simp [undef]), fun w => rfl⟩
          · exact Or.inr ⟨fun v w h => by rw [show v = _ from h]; first | (intro h2; cases h2) | (simp [undef]), fun w => rfl⟩
          · exact Or.inr ⟨fun v w h => by rw [show v = _ from h]; first | (intro h2; cases h2) | (simp [undef]), fun w => rfl⟩
        case fin =>
          intro vs V3 hV3 hv
          have e4 : vs 4 = _ := hv 4 (by decide)
          have e21 : vs 21 = _ := hv 21 (by decide)
          clear hv
          simp only [putAll, List.drop_succ_cons, List.drop_zero, e4, e21, Act.put, List.setIfInBounds_toArray, List.set_cons_succ, List.set_cons_zero]
          clear e4 e21
          go_wp2_with fail
          clear hI hJp
          have e1V3 : V3.cell? ⟨g1, 0, none⟩ = some (.slice (some ad1) a.length k1) := Cells.cell (hV3.1.at_ 0 rfl) (i := 0) (by simp)
          have e2V3 : V3.cell? ⟨g2, 0, none⟩ = some (.slice A2 b.length k2) := Cells.cell (hV3.1.at_ 1 rfl) (i := 0) (by simp)
          gi_wp2
          clear e1V3 e2V3
          refine wpIn_wide.2 ?_
          refine wp_region_hopsJ 22 (44 :: 45 :: 46 :: 47 :: 48 :: 49 :: 50 :: 51 :: 52 :: 53 :: 54 :: 55 :: 56 :: 57 :: 58 :: 59 :: 60 :: 61 :: 62 :: 63 :: 64 :: 65 :: []) [.cells g1 58 [.slice (some ad1) a.length k1], .cells g2 58 [.slice A2 b.length k2], .low (.els B 65 (some ad1) a.length (a.map chgC)), .low (.els B 65 A2 b.length (b.map chgC))] (fun W => J pre W)
            (.eq (.int .i64 i) :: .eq (.slice (some ad1) a.length k1) :: .eq (.int .i64 a.length) :: .eq (.bool false) :: .eq (.bool false) :: .eq (.int .i64 j) :: .eq (.slice A2 b.length k2) :: .eq (.int .i64 b.length) :: .eq (.bool false) :: .eq (.bool false) :: .eq undef :: .eq undef :: .eq undef :: .eq undef :: .eq undef :: .eq undef :: .eq undef :: .eq undef :: .eq undef :: .eq undef :: .eq undef :: .eq (.bool false) :: [])
            (by kernel_rfl) (by kernel_rfl) (fun w1 w2 hg hj => hJ _ _ _ none hj hg (fun r e => by cases e)) hV3 rfl ?hops ?fin
          case hops =>
            refine ⟨?_, ?_, ?_, ?_, ?_, ?_, ?_, ?_, ?_, ?_, ?_, ?_, ?_, ?_, ?_, ?_, ?_, ?_, ?_, ?_, ?_, ?_, trivial⟩
            · intro a' W hW hb hd K hK
              have b4 := hb 4 rfl
              go_simp
              exact hK _ _ (World.grownBy.refl _ _) rfl
            · intro a' W hW hb hd K hK
              have b1 := hb 1 rfl
              have q1 : W.cell? ⟨g1, 0, none⟩ = some (.slice (some ad1) a.length k1) := Cells.cell (hW.1.at_ 0 rfl) (i := 0) (by simp)
              go_simp
              exact hK _ _ (World.grownBy.refl _ _) rfl
            · intro a' W hW hb hd K hK
              have b45 : a'.tmps[45]?.getD undef = _ := hd ⟨1, .data⟩ (by simp) rfl
              go_simp
              exact hK _ _ (World.grownBy.refl _ _) rfl
            · intro a' W hW hb hd K hK
              have b44 : a'.tmps[44]?.getD undef = _ := hd ⟨0, .data⟩ (by simp) rfl
              have b46 : a'.tmps[46]?.getD undef = _ := hd ⟨2, .data⟩ (by simp) rfl
              go_simp
              exact hK _ _ (World.grownBy.refl _ _) rfl
            · intro a' W hW hb hd K hK
              have b47 : a'.tmps[47]?.getD undef = _ := hd ⟨3, .data⟩ (by simp) rfl
              go_simp
              exact hK _ _ (World.grownBy.refl _ _) rfl
            · refine Or.inl ⟨fun v w h => h, ?_⟩
              intro a' W hW hb hd K hK
              have b5 := hb 5 rfl
              go_simp
              exact hK _ _ (World.grownBy.refl _ _) rfl
            · refine Or.inl ⟨fun v w h => h, ?_⟩
              intro a' W hW hb hd K hK
              have b2 := hb 2 rfl
              have q1 : W.cell? ⟨g2, 0, none⟩ = some (.slice A2 b.length k2) := Cells.cell (hW.1.at_ 1 rfl) (i := 0) (by simp)
              go_simp
              exact hK _ _ (World.grownBy.refl _ _) rfl
            · refine Or.inl ⟨fun v w h => h, ?_⟩
              intro a' W hW hb hd K hK
              have b50 : a'.tmps[50]?.getD undef = _ := hd ⟨6, .data⟩ (by simp) rfl
              go_simp
              exact hK _ _ (World.grownBy.refl _ _) rfl
            · refine Or.inl ⟨fun v w h => h, ?_⟩
              intro a' W hW hb hd K hK
              have b49 : a'.tmps[49]?.getD undef = _ := hd ⟨5, .data⟩ (by simp) rfl
              have b51 : a'.tmps[51]?.getD undef = _ := hd ⟨7, .data⟩ (by simp) rfl
              go_simp
              exact hK _ _ (World.grownBy.refl _ _) rfl
            · refine Or.inl ⟨fun v w h => h, ?_⟩
              intro a' W hW hb hd K hK
              have b52 : a'.tmps[52]?.getD undef = _ := hd ⟨8, .data⟩ (by simp) rfl
              go_simp
              exact hK _ _ (World.grownBy.refl _ _) rfl
            · exact Or.inr ⟨fun v w h => by rw [show v = _ from h]; first | (intro h2; cases h2) | (simp [undef]), fun w => rfl⟩
            · exact Or.inr ⟨fun v w h => by rw [show v = _ from h]; first | (intro h2; cases h2) | (simp [undef]), fun w => rfl⟩
            · exact Or.inr ⟨fun v w h => by rw [show v = _ from h]; first | (intro h2; cases h2) | (simp [undef]), fun w => rfl⟩
            · exact Or.inr ⟨fun v w h => by rw [show v = _ from h]; first | (intro h2; cases h2) | (simp [undef]), fun w => rfl⟩
            · exact Or.inr ⟨fun v w h => by rw [show v = _ from h]; first | (intro h2; cases h2) | (simp [undef]), fun w => rfl⟩
            · exact Or.inr ⟨fun v w h => by rw [show v = _ from h]; first | (intro h2; cases h2) | (simp [undef]), fun w => rfl⟩
            · exact Or.inr ⟨fun v w h => by rw [show v = _ from h]; first | (intro h2; cases h2) | (simp [undef]), fun w => rfl⟩
            · exact Or.inr ⟨fun v w h => by rw [show v = _ from h]; first | (intro h2; cases h2) | (simp [undef]), fun w => rfl⟩
            · exact Or.inr ⟨fun v w h => by rw [show v = _ from h]; first | (intro h2; cases h2) | (simp [undef]), fun w => rfl⟩
            · exact Or.inr ⟨fun v w h => by rw [show v = _ from h]; first | (intro h2; cases h2) | (simp [undef]), fun w => rfl⟩
            · exact Or.inr ⟨fun v w h => by rw [show v = _ from h]; first | (intro h2; cases h2) | (simp [undef]), fun w => rfl⟩
            · refine Or.inl ⟨fun v w h => h, ?_⟩
              intro a' W hW hb hd K hK
              have b53 : a'.tmps[53]?.getD undef = _ := hd ⟨9, .data⟩ (by simp) rfl
              have b64 : a'.tmps[64]?.getD undef = _ := hd ⟨20, .data⟩ (by simp) rfl
              go_simp
              exact hK _ _ (World.grownBy.refl _ _) rfl
          case fin =>
            intro vs V5 hV5 hv
            have e4 : vs 4 = _ := hv 4 (by decide)
            have e21 : vs 21 = _ := hv 21 (by decide)
            clear hv
            simp only [putAll, List.drop_succ_cons, List.drop_zero, e4, e21, Act.put, List.setIfInBounds_toArray, List.set_cons_succ, List.set_cons_zero]
            clear e4 e21
            go_wp2_with fail
            clear hV3
            have e1V5 : V5.cell? ⟨g1, 0, none⟩ = some (.slice (some ad1) a.length k1) := Cells.cell (hV5.1.at_ 0 rfl) (i := 0) (by simp)
            have e2V5 : V5.cell? ⟨g2, 0, none⟩ = some (.slice A2 b.length k2) := Cells.cell (hV5.1.at_ 1 rfl) (i := 0) (by simp)
            obtain ⟨fn, tmps, assign, body, hy, hR⟩ := hY pre (It.l ⟨i, hi⟩) V5 hV5.2 HLEN.out
            simp only [encI, ptrA, Option.map_some] at hy
            gi_wp2
            clear e1V5 e2V5
            refine hR.mono ?_
            rintro e W' (⟨rfl, hJ', hk'⟩ | ⟨rfl, hJx'⟩)
            · gi_wp2
              go_roundw
              case rel => exact ⟨i + 1, j, pre ++ [(It.l ⟨i, hi⟩)], by omega, by omega, by first | rfl | go_num, by first | rfl | go_num, by rw [List.append_assoc, List.singleton_append, ← hbf.out]; exact HPRE.out, hJ', hk' hV5.1⟩
              case measure => simp [intOf]; omega
            · gi_wp2
              refine bodyPost_ret (results_none rfl _ _ _) rfl ?_
              exact ⟨⟨_, rfl⟩, .inr ⟨_, ⟨bothF a b (i + 1) (j), by rw [List.append_assoc, List.singleton_append, ← hbf.out]; exact HPRE.out⟩, hJx'⟩⟩
    · by_cases hj : j < b.length
      · obtain ⟨ad2, rfl, -, -⟩ := Els.elem (hI.at_ 3 rfl : Els wr B 65 A2 b.length (b.map chgC) ∧ B ≤ wr.heap.size).1 hj
        have hadd := hia
        have di : decide ((i : Int) < (a.length : Int)) = false := by simp; omega
        have dj : decide ((j : Int) < (b.length : Int)) = true := by simp; omega
        have qi : (((i : Int)) == (a.length : Int)) = true := by simp; omega
        have qj : (((j : Int)) == (b.length : Int)) = false := by simp; omega
        have wj0 : (0 : Int) ≤ (j : Int) := by omega
        have wj1 : (j : Int) < (b.length : Int) := by omega
        have wj2 : ((j : Int)).toNat = j := by omega
        have wj3 : IntKind.i64.wrap ((j : Int) + 1) = (j : Int) + 1 := IntWalk.i64_in _ (by omega)
        have hbf := Lib.hid (bothF_r0 hi hj)
        have HLEN : Hid (pre.length < a.length + b.length) := Lib.hid (by have h1 := congrArg List.length HPRE.out; rw [hbf.out, List.length_append, List.length_cons] at h1; have h2 := HT.out; omega)
        have e1wr : wr.cell? ⟨g1, 0, none⟩ = some (.slice A1 a.length k1) := Cells.cell (hI.at_ 0 rfl) (i := 0) (by simp)
        have e2wr : wr.cell? ⟨g2, 0, none⟩ = some (.slice (some ad2) b.length k2) := Cells.cell (hI.at_ 1 rfl) (i := 0) (by simp)
        gi_wp2
        clear e1wr e2wr
        refine wpIn_wide.2 ?_
        refine wp_region_hopsJ 22 (18 :: 19 :: 20 :: 21 :: 22 :: 23 :: 24 :: 25 :: 26 :: 27 :: 28 :: 29 :: 30 :: 31 :: 32 :: 33 :: 34 :: 35 :: 36 :: 37 :: 38 :: 39 :: []) [.cells g1 58 [.slice A1 a.length k1], .cells g2 58 [.slice (some ad2) b.length k2], .low (.els B 65 A1 a.length (a.map chgC)), .low (.els B 65 (some ad2) b.length (b.map chgC))] (fun W => J pre W)
          (.eq (.int .i64 j) :: .eq (.slice (some ad2) b.length k2) :: .eq (.int .i64 b.length) :: .eq (.bool false) :: .eq (.bool false) :: .eq (.int .i64 i) :: .eq (.slice A1 a.length k1) :: .eq (.int .i64 a.length) :: .eq (.bool false) :: .eq (.bool false) :: .eq undef :: .eq undef :: .eq undef :: .eq undef :: .eq undef :: .eq undef :: .eq undef :: .eq undef :: .eq undef :: .eq undef :: .eq undef :: .eq (.bool false) :: [])
          (by kernel_rfl) (by kernel_rfl) (fun w1 w2 hg hj => hJ _ _ _ none hj hg (fun r e => by cases e)) ⟨hI, hJp⟩ rfl ?hops ?fin
        case hops =>
          refine ⟨?_, ?_, ?_, ?_, ?_, ?_, ?_, ?_, ?_, ?_, ?_, ?_, ?_, ?_, ?_, ?_, ?_, ?_, ?_, ?_, ?_, ?_, trivial⟩
          · intro a' W hW hb hd K hK
            have b5 := hb 5 rfl
            go_simp
            exact hK _ _ (World.grownBy.refl _ _) rfl
          · intro a' W hW hb hd K hK
            have b2 := hb 2 rfl
            have q1 : W.cell? ⟨g2, 0, none⟩ = some (.slice (some ad2) b.length k2) := Cells.cell (hW.1.at_ 1 rfl) (i := 0) (by simp)
            go_simp
            exact hK _ _ (World.grownBy.refl _ _) rfl
          · intro a' W hW hb hd K hK
            have b19 : a'.tmps[19]?.getD undef = _ := hd ⟨1, .data⟩ (by simp) rfl
            go_simp
            exact hK _ _ (World.grownBy.refl _ _) rfl
          · intro a' W hW hb hd K hK
            have b18 : a'.tmps[18]?.getD undef = _ := hd ⟨0, .data⟩ (by simp) rfl
            have b20 : a'.tmps[20]?.getD undef = _ := hd ⟨2, .data⟩ (by simp) rfl
            go_simp
            exact hK _ _ (World.grownBy.refl _ _) rfl
          · intro a' W hW hb hd K hK
            have b21 : a'.tmps[21]?.getD undef = _ := hd ⟨3, .data⟩ (by simp) rfl
            go_simp
            exact hK _ _ (World.grownBy.refl _ _) rfl
          · refine Or.inl ⟨fun v w h => h, ?_⟩
            intro a' W hW hb hd K hK
            have b4 := hb 4 rfl
            go_simp
            exact hK _ _ (World.grownBy.refl _ _) rfl
          · refine Or.inl ⟨fun v w h => h, ?_⟩
            intro a' W hW hb hd K hK
            have b1 := hb 1 rfl
            have q1 : W.cell? ⟨g1, 0, none⟩ = some (.slice A1 a.length k1) := Cells.cell (hW.1.at_ 0 rfl) (i := 0) (by simp)
            go_simp
            exact hK _ _ (World.grownBy.refl _ _) rfl
          · refine Or.inl ⟨fun v w h => h, ?_⟩
            intro a' W hW hb hd K hK
            have b24 : a'.tmps[24]?.getD undef = _ := hd ⟨6, .data⟩ (by simp) rfl
            go_simp
            exact hK _ _ (World.grownBy.refl _ _) rfl
          · refine Or.inl ⟨fun v w h => h, ?_⟩
            intro a' W hW hb hd K hK
            have b23 : a'.tmps[23]?.getD undef = _ := hd ⟨5, .data⟩ (by simp) rfl
            have b25 : a'.tmps[25]?.getD undef = _ := hd ⟨7, .data⟩ (by simp) rfl
            go_simp
            exact hK _ _ (World.grownBy.refl _ _) rfl
          · refine Or.inl ⟨fun v w h => h, ?_⟩
            intro a' W hW hb hd K hK
            have b26 : a'.tmps[26]?.getD undef = _ := hd ⟨8, .data⟩ (by simp) rfl
            go_simp
            exact hK _ _ (World.grownBy.refl _ _) rfl
          · exact Or.inr ⟨fun v w h => by rw [show v = _ from h]; first | (intro h2; cases h2) | (simp [undef]), fun w => rfl⟩
          · exact Or.inr ⟨fun v w h => by rw [show v = _ from h]; first | (intro h2; cases h2) | (simp [undef]), fun w => rfl⟩
          · exact Or.inr ⟨fun v w h => by rw [show v = _ from h]; first | (intro h2; cases h2) | (simp [undef]), fun w => rfl⟩
          · exact Or.inr ⟨fun v w h => by rw [show v = _ from h]; first | (intro h2; cases h2) | (simp [undef]), fun w => rfl⟩
          · exact Or.inr ⟨fun v w h => by rw [show v = _ from h]; first | (intro h2; cases h2) | (simp [undef]), fun w => rfl⟩
          · exact Or.inr ⟨fun v w h => by rw [show v = _ from h]; first | (intro h2; cases h2) | (simp [undef]), fun w => rfl⟩
          · exact Or.inr ⟨fun v w h => by rw [show v = _ from h]; first | (intro h2; cases h2) | (simp [undef]), fun w => rfl⟩
          · exact Or.inr ⟨fun v w h => by rw [show v = _ from h]; first | (intro h2; cases h2) | (simp [undef]), fun w => rfl⟩
          · exact Or.inr ⟨fun v w h => by rw [show v = _ from h]; first | (intro h2; cases h2) | (simp [undef]), fun w => rfl⟩
          · exact Or.inr ⟨fun v w h => by rw [show v = _ from h]; first | (intro h2; cases h2) | (simp [undef]), fun w => rfl⟩
          · exact Or.inr ⟨fun v w h => by rw [show v = _ from h]; first | (intro h2; cases h2) | (simp [undef]), fun w => rfl⟩
          · refine Or.inl ⟨fun v w h => h, ?_⟩
            intro a' W hW hb hd K hK
            have b27 : a'.tmps[27]?.getD undef = _ := hd ⟨9, .data⟩ (by simp) rfl
            have b38 : a'.tmps[38]?.getD undef = _ := hd ⟨20, .data⟩ (by simp) rfl
            go_simp
            exact hK _ _ (World.grownBy.refl _ _) rfl
        case fin =>
          intro vs V3 hV3 hv
          have e4 : vs 4 = _ := hv 4 (by decide)
          have e21 : vs 21 = _ := hv 21 (by decide)
          clear hv
          simp only [putAll, List.drop_succ_cons, List.drop_zero, e4, e21, Act.put, List.setIfInBounds_toArray, List.set_cons_succ, List.set_cons_zero]
          clear e4 e21
          go_wp2_with fail
          clear hI hJp
          have e1V3 : V3.cell? ⟨g1, 0, none⟩ = some (.slice A1 a.length k1) := Cells.cell (hV3.1.at_ 0 rfl) (i := 0) (by simp)
          have e2V3 : V3.cell? ⟨g2, 0, none⟩ = some (.slice (some ad2) b.length k2) := Cells.cell (hV3.1.at_ 1 rfl) (i := 0) (by simp)
          gi_wp2
          clear e1V3 e2V3
          refine wpIn_wide.2 ?_
          refine wp_region_hopsJ 22 (44 :: 45 :: 46 :: 47 :: 48 :: 49 :: 50 :: 51 :: 52 :: 53 :: 54 :: 55 :: 56 :: 57 :: 58 :: 59 :: 60 :: 61 :: 62 :: 63 :: 64 :: 65 :: []) [.cells g1 58 [.slice A1 a.length k1], .cells g2 58 [.slice (some ad2) b.length k2], .low (.els B 65 A1 a.length (a.map chgC)), .low (.els B 65 (some ad2) b.length (b.map chgC))] (fun W => J pre W)
            (.eq (.int .i64 i) :: .eq (.slice A1 a.length k1) :: .eq (.int .i64 a.length) :: .eq (.bool true) :: .eq (.bool true) :: .eq undef :: .eq undef :: .eq undef :: .eq undef :: .eq undef :: .eq undef :: .eq undef :: .eq undef :: .eq undef :: .eq undef :: .eq undef :: .eq undef :: .eq undef :: .eq undef :: .eq undef :: .eq undef :: .eq undef :: [])
            (by kernel_rfl) (by kernel_rfl) (fun w1 w2 hg hj => hJ _ _ _ none hj hg (fun r e => by cases e)) hV3 rfl ?hops ?fin
          case hops =>
            refine ⟨?_, ?_, ?_, ?_, ?_, ?_, ?_, ?_, ?_, ?_, ?_, ?_, ?_, ?_, ?_, ?_, ?_, ?_, ?_, ?_, ?_, ?_, trivial⟩
            · intro a' W hW hb hd K hK
              have b4 := hb 4 rfl
              go_simp
              exact hK _ _ (World.grownBy.refl _ _) rfl
            · intro a' W hW hb hd K hK
              have b1 := hb 1 rfl
              have q1 : W.cell? ⟨g1, 0, none⟩ = some (.slice A1 a.length k1) := Cells.cell (hW.1.at_ 0 rfl) (i := 0) (by simp)
              go_simp
              exact hK _ _ (World.grownBy.refl _ _) rfl
            · intro a' W hW hb hd K hK
              have b45 : a'.tmps[45]?.getD undef = _ := hd ⟨1, .data⟩ (by simp) rfl
              go_simp
              exact hK _ _ (World.grownBy.refl _ _) rfl
            · intro a' W hW hb hd K hK
              have b44 : a'.tmps[44]?.getD undef = _ := hd ⟨0, .data⟩ (by simp) rfl
              have b46 : a'.tmps[46]?.getD undef = _ := hd ⟨2, .data⟩ (by simp) rfl
              go_simp
              exact hK _ _ (World.grownBy.refl _ _) rfl
            · intro a' W hW hb hd K hK
              have b47 : a'.tmps[47]?.getD undef = _ := hd ⟨3, .data⟩ (by simp) rfl
              go_simp
              exact hK _ _ (World.grownBy.refl _ _) rfl
            · exact Or.inr ⟨fun v w h => by rw [show v = _ from h]; first | (intro h2; cases h2) | (simp [undef]), fun w => rfl⟩
            · exact Or.inr ⟨fun v w h => by rw [show v = _ from h]; first | (intro h2; cases h2) | (simp [undef]), fun w => rfl⟩
            · exact Or.inr ⟨fun v w h => by rw [show v = _ from h]; first | (intro h2; cases h2) | (simp [undef]), fun w => rfl⟩
            · exact Or.inr ⟨fun v w h => by rw [show v = _ from h]; first | (intro h2; cases h2) | (simp [undef]), fun w => rfl⟩
            · exact Or.inr ⟨fun v w h => by rw [show v = _ from h]; first | (intro h2; cases h2) | (simp [undef]), fun w => rfl⟩
            · exact Or.inr ⟨fun v w h => by rw [show v = _ from h]; first | (intro h2; cases h2) | (simp [undef]), fun w => rfl⟩
            · exact Or.inr ⟨fun v w h => by rw [show v = _ from h]; first | (intro h2; cases h2) | (simp [undef]), fun w => rfl⟩
            · exact Or.inr ⟨fun v w h => by rw [show v = _ from h]; first | (intro h2; cases h2) | (simp [undef]), fun w => rfl⟩
            · exact Or.inr ⟨fun v w h => by rw [show v = _ from h]; first | (intro h2; cases h2) | (simp [undef]), fun w => rfl⟩
            · exact Or.inr ⟨fun v w h => by rw [show v = _ from h]; first | (intro h2; cases h2) | (simp [undef]), fun w => rfl⟩
            · exact Or.inr ⟨fun v w h => by rw [show v = _ from h]; first | (intro h2; cases h2) | (simp [undef]), fun w => rfl⟩
            · exact Or.inr ⟨fun v w h => by rw [show v = _ from h]; first | (intro h2; cases h2) | (simp [undef]), fun w => rfl⟩
            · exact Or.inr ⟨fun v w h => by rw [show v = _ from h]; first | (intro h2; cases h2) | (simp [undef]), fun w => rfl⟩
            · exact Or.inr ⟨fun v w h => by rw [show v = _ from h]; first | (intro h2; cases h2) | (simp [undef]), fun w => rfl⟩
            · exact Or.inr ⟨fun v w h => by rw [show v = _ from h]; first | (intro h2; cases h2) | (simp [undef]), fun w => rfl⟩
            · exact Or.inr ⟨fun v w h => by rw [show v = _ from h]; first | (intro h2; cases h2) | (simp [undef]), fun w => rfl⟩
            · exact Or.inr ⟨fun v w h => by rw [show v = _ from h]; first | (intro h2; cases h2) | (simp [undef]), fun w => rfl⟩
          case fin =>
            intro vs V5 hV5 hv
            have e4 : vs 4 = _ := hv 4 (by decide)
            have e21 : vs 21 = _ := hv 21 (by decide)
            clear hv
            simp only [putAll, List.drop_succ_cons, List.drop_zero, e4, e21, Act.put, List.setIfInBounds_toArray, List.set_cons_succ, List.set_cons_zero]
            clear e4 e21
            go_wp2_with fail
            clear hV3
            have e1V5 : V5.cell? ⟨g1, 0, none⟩ = some (.slice A1 a.length k1) := Cells.cell (hV5.1.at_ 0 rfl) (i := 0) (by simp)
            have e2V5 : V5.cell? ⟨g2, 0, none⟩ = some (.slice (some ad2) b.length k2) := Cells.cell (hV5.1.at_ 1 rfl) (i := 0) (by simp)
            obtain ⟨fn, tmps, assign, body, hy, hR⟩ := hY pre (It.r ⟨j, hj⟩) V5 hV5.2 HLEN.out
            simp only [encI, ptrA, Option.map_some] at hy
            gi_wp2
            clear e1V5 e2V5
            refine hR.mono ?_
            rintro e W' (⟨rfl, hJ', hk'⟩ | ⟨rfl, hJx'⟩)
            · gi_wp2
              go_roundw
              case rel => exact ⟨i, j + 1, pre ++ [(It.r ⟨j, hj⟩)], by omega, by omega, by first | rfl | go_num, by first | rfl | go_num, by rw [List.append_assoc, List.singleton_append, ← hbf.out]; exact HPRE.out, hJ', hk' hV5.1⟩
              case measure => simp [intOf]; omega
            · gi_wp2
              refine bodyPost_ret (results_none rfl _ _ _) rfl ?_
              exact ⟨⟨_, rfl⟩, .inr ⟨_, ⟨bothF a b (i) (j + 1), by rw [List.append_assoc, List.singleton_append, ← hbf.out]; exact HPRE.out⟩, hJx'⟩⟩
      · have hadd := hia
        have di : decide ((i : Int) < (a.length : Int)) = false := by simp; omega
        have dj : decide ((j : Int) < (b.length : Int)) = false := by simp; omega
        have e1wr : wr.cell? ⟨g1, 0, none⟩ = some (.slice A1 a.length k1) := Cells.cell (hI.at_ 0 rfl) (i := 0) (by simp)
        have e2wr : wr.cell? ⟨g2, 0, none⟩ = some (.slice A2 b.length k2) := Cells.cell (hI.at_ 1 rfl) (i := 0) (by simp)
        have hend : Hid (pre = bothF a b 0 0) := Lib.hid (by rw [← HPRE.out, bothF_0 hi hj, List.append_nil])
        gi_wp2
        go_end0
        exact ⟨⟨_, rfl⟩, .inl ⟨_, hend.out, hJp⟩⟩
end Go.Proofs.YtipepcjiogifaaaDoor

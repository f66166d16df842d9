/- The lines of a snapshot, as a list of rows that the call made: the reference. -/
import Derived.Test.YtjdinakdkdjocaaGreatDoorLinB
import Derived.Test.YtjdinakdkdjocaaGreatDoorFmtR
set_option linter.unusedSimpArgs false
set_option linter.unusedVariables false
set_option maxRecDepth 100000
namespace Go.Proofs.YtjdinakdkdjocaaGreatDoor
open Go Go.RowKit Go.Adm
set_option maxHeartbeats 3200000 in
theorem refLines_any (tag : ByteArray) (ht : tag.size ≤ 140737488355328) (w : World) (B : Nat) (A : Option Addr) (n c : Nat) (l : List E) (hl : Els w B 33 A n (l.map entC)) (h32 : ∀ e ∈ l, E32 e) (hn : l.length = n) (hn2 : n ≤ 1000000) (hB : B ≤ w.heap.size) :
    Calls Tryz.prog 15 #[.string tag, .slice A n c] w (LinesNest 27 w n (entLs tag l)) := by
  have hR : All w [.low (.els B 33 A n (l.map entC)), .kept w w.heap.size] := ⟨⟨hl, hB⟩, ⟨Below.refl _ _, Nat.le_refl _⟩, trivial⟩
  have HN := Lib.hid hn
  have H32 := Lib.hid h32
  clear hl h32 hn
  have hzr := zero_ent
  go_enter Tryz.func15, Tryz.ntmps15
  go_upto_region 3 with (fail)
  have hI0 : All w [.nest w.heap.size 27 1 none 0 0 [] 0 (fun _ => False) (fun w => All2 (RowAt w w.heap.size) [] ((entLs tag l).take 0)), .low (.els B 33 A n (l.map entC)), .kept w w.heap.size] := ⟨Nest.start (fun w => .nil), hR⟩
  clear hR
  go_wp2
  go_loopw [5, 6] (fun v i wr => ∃ (k : Nat) (A' : Option Addr) (c' : Nat) (vs : List Value) (F : Nat → Prop), k ≤ n ∧ i = .int .i64 k ∧ v = .slice A' k c' ∧ w.heap.size ≤ wr.heap.size ∧ All wr [.nest w.heap.size 27 1 A' k c' vs 0 F (fun w => All2 (RowAt w w.heap.size) vs ((entLs tag l).take k)), .low (.els B 33 A n (l.map entC)), .kept w w.heap.size]) (fun _ i _ => n - (intOf i).toNat)
  case atStart => exact ⟨0, none, 0, [], _, by omega, rfl, rfl, Nat.le_refl _, hI0⟩
  case round =>
    obtain ⟨k, A', c', vs, F, hk, rfl, rfl, hsr, hI⟩ := hrel
    clear hI0
    by_cases hlt : k < n
    · have hkl : k < l.length := by rw [HN.out]; exact hlt
      obtain ⟨ad, rfl, hadB, hc⟩ := Els.elem (hI.at_ 1 rfl : Els wr B 33 A n (l.map entC) ∧ B ≤ wr.heap.size).1 hkl
      have HC := Lib.hid hc
      have HT : Hid ((entLs tag l).take (k + 1) = (entLs tag l).take k ++ [entLn tag l[k]]) := Lib.hid (by rw [entLs, ← List.map_take, List.take_succ_eq_append_getElem hkl, List.map_append, List.map_take]; rfl)
      have HX : Hid (∀ W, All W [.nest w.heap.size 27 1 A' k c' vs 0 F (fun w => All2 (RowAt w w.heap.size) vs ((entLs tag l).take k)), .low (.els B 33 (some ad) n (l.map entC)), .kept w w.heap.size] → ∀ q s, (entC l[k])[q]? = some s → W.cell? ((ad.add (k * 33)).add q) = some s) := Lib.hid (fun W hW => by
        obtain ⟨ad', e, _, hc⟩ := Els.elem (hW.at_ 1 rfl : Els W B 33 (some ad) n (l.map entC) ∧ B ≤ W.heap.size).1 hkl
        obtain rfl := Option.some.inj e
        exact hc)
      have hx := Lib.hid (H32.out _ (List.getElem_mem hkl))
      clear hc
      generalize l[k] = x at *
      have hsz : w.heap.size ≤ wr.heap.size := hI.size_kept 2 rfl
      have d1 : decide ((k : Int) < (n : Int)) = true := by simp; omega
      have wk0 : (0 : Int) ≤ (k : Int) := by omega
      have wk1 : (k : Int) < (n : Int) := by omega
      have wk2 : ((k : Int)).toNat = k := by omega
      go_upto_region 5 with (fail)
      refine wp_region_hops 15 [13, 14, 15, 16, 17, 18, 19, 20, 21, 22, 23, 24, 25, 26, 27] [.nest w.heap.size 27 1 A' k c' vs 0 F (fun w => All2 (RowAt w w.heap.size) vs ((entLs tag l).take k)), .low (.els B 33 (some ad) n (l.map entC)), .kept w w.heap.size]
        [.eq (.slice A' k c'), .eq (.string tag), .eq (.slice (some ad) n c), .eq (.int .i64 k), .eq (.pointer (some (ad.add (k * 33)))), .eq (.pointer (some (ad.add (k * 33)))), .eq (.string x.p), .eq (.slice (some ad) n c), .eq (.int .i64 k), .eq (.pointer (some (ad.add (k * 33)))), .eq (.pointer (some ((ad.add (k * 33)).add 1))), .eq (.agg (x.d.map bv).toArray), .eq (.string ⟨(fmtL x.d).toArray⟩), .strs w.heap.size (.slice A' k c') (entLn tag x), .line w.heap.size (.slice A' k c') (entLn tag x)]
        (by kernel_rfl) (by kernel_rfl) hI rfl ?hops ?fin
      case hops =>
        refine ⟨?_, ?_, ?_, ?_, ?_, ?_, ?_, ?_, ?_, ?_, ?_, ?_, ?_, ?_, ?_, trivial⟩
        · intro a W hW hb hd K hK
          have b5 := hb 5 rfl
          go_simp
          exact hK _ _ (World.grownBy.refl _ _) rfl
        · intro a W hW hb hd K hK
          have b0 := hb 0 rfl
          go_simp
          exact hK _ _ (World.grownBy.refl _ _) rfl
        · intro a W hW hb hd K hK
          have b1 := hb 1 rfl
          go_simp
          exact hK _ _ (World.grownBy.refl _ _) rfl
        · intro a W hW hb hd K hK
          have b6 := hb 6 rfl
          go_simp
          exact hK _ _ (World.grownBy.refl _ _) rfl
        · intro a W hW hb hd K hK
          have b15 : a.tmps[15]?.getD undef = _ := hd ⟨2, .data⟩ (by simp) rfl
          have b16 : a.tmps[16]?.getD undef = _ := hd ⟨3, .data⟩ (by simp) rfl
          go_simp
          exact hK _ _ (World.grownBy.refl _ _) rfl
        · intro a W hW hb hd K hK
          have b17 : a.tmps[17]?.getD undef = _ := hd ⟨4, .data⟩ (by simp) rfl
          go_simp
          exact hK _ _ (World.grownBy.refl _ _) (by first | rfl | (rw [add_zero]; rfl) | (simp [add_zero]; rfl))
        · intro a W hW hb hd K hK
          have b18 : a.tmps[18]?.getD undef = _ := hd ⟨5, .data⟩ (by simp) rfl
          have q1 : W.cell? (ad.add (k * 33)) = some (.string x.p) := by have := HX.out W hW 0 (sv x.p) rfl; rwa [add_zero] at this
          go_simp
          exact hK _ _ (World.grownBy.refl _ _) rfl
        · intro a W hW hb hd K hK
          have b1 := hb 1 rfl
          go_simp
          exact hK _ _ (World.grownBy.refl _ _) rfl
        · intro a W hW hb hd K hK
          have b6 := hb 6 rfl
          go_simp
          exact hK _ _ (World.grownBy.refl _ _) rfl
        · intro a W hW hb hd K hK
          have b20 : a.tmps[20]?.getD undef = _ := hd ⟨7, .data⟩ (by simp) rfl
          have b21 : a.tmps[21]?.getD undef = _ := hd ⟨8, .data⟩ (by simp) rfl
          go_simp
          exact hK _ _ (World.grownBy.refl _ _) rfl
        · intro a W hW hb hd K hK
          have b22 : a.tmps[22]?.getD undef = _ := hd ⟨9, .data⟩ (by simp) rfl
          go_simp
          exact hK _ _ (World.grownBy.refl _ _) (by first | rfl | (rw [add_zero]; rfl) | (simp [add_zero]; rfl))
        · intro a W hW hb hd K hK
          have b23 : a.tmps[23]?.getD undef = _ := hd ⟨10, .data⟩ (by simp) rfl
          refine wp_load_any 68 (.tmp 23) rfl ((ad.add (k * 33)).add 1) (show a.eval (.tmp 23) = _ from by simp only [Act.eval, Array.getD_eq_getD_getElem?]; exact b23) (x.d.map bv) _ (fun q s hs => by rw [add_add]; exact HX.out W hW _ s (ent_sub x q s hs)) Tryz.underlying68 rfl (by rw [List.length_map, hx.out.1]; kernel_rfl) ?_
          exact hK _ _ (World.grownBy.refl _ _) rfl
        · intro a W hW hb hd K hK
          have b24 : a.tmps[24]?.getD undef = _ := hd ⟨11, .data⟩ (by simp) rfl
          go_simp
          refine (refFormat_any W x.d hx.out.1).mono ?_
          rintro e w' ⟨rfl, hb'⟩
          exact hK _ _ (grown_of_below hb') rfl
        · intro a W hW hb hd K hK
          have b14 : a.tmps[14]?.getD undef = _ := hd ⟨1, .data⟩ (by simp) rfl
          have b19 : a.tmps[19]?.getD undef = _ := hd ⟨6, .data⟩ (by simp) rfl
          have b25 : a.tmps[25]?.getD undef = _ := hd ⟨12, .data⟩ (by simp) rfl
          go_simp
          refine hK _ _ (grown_alloc _ _) ⟨⟨W.heap.size, 0, none⟩, rfl, ⟨(Rd.lit W #[.string tag, .string x.p, .string ⟨(fmtL x.d).toArray⟩] _ 3 rfl).mono (by simp), ?_⟩, (hW.at_ 2 rfl : _ ∧ w.heap.size ≤ W.heap.size).2, by simp, fun e => ?_⟩
          · intro s hs
            simp only [entLn, List.mem_cons, List.mem_nil_iff, or_false] at hs
            rcases hs with rfl | rfl | rfl
            · exact ht
            · exact hx.out.2
            · rw [fmt_size hx.out.1]; decide
          · have := ((hW.at_ 0 rfl : Nest W w.heap.size 27 1 A' k c' vs 0 F _).own.lt e).2
            exact absurd this (Nat.lt_irrefl _)
        · intro a W hW hb hd K hK
          obtain ⟨ad3, b26x, hs3, h31, h32, h33⟩ := (hd ⟨13, .data⟩ (by simp) rfl : VF.ok (.strs w.heap.size (.slice A' k c') (entLn tag x)) (a.tmps[26]?.getD undef) W)
          replace b26x : a.tmps[26]?.getD undef = .slice (some ad3) 3 3 := b26x
          go_simp
          exact hK _ _ (grown_alloc _ _) ⟨_, _, ad3, rfl, (Rd.lit W #[.slice (some ad3) 3 3] _ 1 rfl).mono (by simp), hs3.grownN (grown_alloc _ _), h31, by simp; omega, h33⟩
      case fin =>
        intro vv V hV hv
        have e0 : vv 0 = _ := hv 0 (by decide)
        obtain ⟨A9, c9, ad3, e9, hRd, hs3, h31, h34, h33⟩ := (hv 14 (by decide) : VF.ok (.line w.heap.size (.slice A' k c') (entLn tag x)) (vv 14) V)
        clear hv
        simp only [putAll, List.drop_succ_cons, List.drop_zero, e0, e9, Act.put, List.setIfInBounds_toArray, List.set_cons_succ, List.set_cons_zero]
        clear e0 e9
        have hsV : w.heap.size ≤ V.heap.size := (hV.at_ 2 rfl : _ ∧ w.heap.size ≤ V.heap.size).2
        refine wl_app_nest el_line hV 0 rfl (.tmp 13) (.tmp 27) rfl w.heap.size A' k c' vs 0 F _ rfl rfl V.heap.size _ 1 _ [.slice (some ad3) 3 3] rfl hRd (by intro u hu; simp only [List.mem_singleton] at hu; subst hu; rfl) (by omega) hsV (Nat.zero_le _) (fun b => b = ad3.block) (fun W => RowAt W W.heap.size (.slice (some ad3) 3 3) (entLn tag x)) ⟨ad3, rfl, by simp [entLn], hs3⟩ (RowAt.st (Or.inr rfl)) (fun b hb => by subst hb; exact ⟨h31, h34, h33⟩) (by intro g hg _; simp [Apart, Res.apart, Low.els] <;> omega) ?_
        intro A7 c7 w7 hI7 hs7
        go_wp2
        refine ⟨⟨k + 1, A7, c7, vs ++ [.slice (some ad3) 3 3], (fun b => F b ∨ b = ad3.block), by omega, by go_num, rfl, by first | omega | (simp at hs7; omega), ?_⟩, by simp [intOf]; omega⟩
        refine ⟨Nest.as (hI7.at_ 0 rfl) (fun W' => ?_), hI7.2⟩
        rw [HT.out]
        exact All2.snoc.symm
    · have hkn : Hid (k = n) := Lib.hid (by omega)
      have d1 : decide ((k : Int) < (n : Int)) = false := by simp; omega
      have hkp := (hI.at_ 2 rfl : Res.ok wr (.kept w w.heap.size)).1
      have hN := (hI.at_ 0 rfl : Nest wr w.heap.size 27 1 A' k c' vs 0 F _)
      have hfin : Hid (Nest wr w.heap.size 27 1 A' n c' vs 0 F (fun W => All2 (RowAt W W.heap.size) vs (entLs tag l))) := Lib.hid (by
        have h1 := hN
        rw [List.take_of_length_le (by rw [entLs, List.length_map]; have := HN.out; have := hkn.out; omega)] at h1
        rw [hkn.out] at h1
        exact h1)
      clear hI hN
      go_wp2
      go_ret
      exact ⟨A', c', vs, F, by rw [hkn.out]; rfl, hkp, hfin.out⟩
end Go.Proofs.YtjdinakdkdjocaaGreatDoor

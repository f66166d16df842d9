/- The law KeytreeVerifies. -/
import Derived.Test.YtlnbeglelhdjfaaKey33
set_option linter.unusedSimpArgs false
set_option linter.unusedVariables false
namespace Go.Proofs.Ytlnbeglelhdjfaa
open Go Go.RowKit Go.Adm

set_option maxRecDepth 100000 in
set_option maxHeartbeats 3200000 in
theorem walkVerifies (w : World) (B : Nat) (seed : List UInt8) (x : Int) (Al : Option Addr) (nl cl : Nat) (l : List (List UInt8)) (hs : seed.length = 16) (hnl : l.length = nl) (hl : Els w B 32 Al nl (hvs l)) (hl32 : ∀ y ∈ l, y.length = 32) (hB : B ≤ w.heap.size) :
    Calls Try.prog 4 #[.agg (seed.map bv).toArray, .int .i64 x, .slice Al nl cl] w fun e w' => e = .returned (.bool true) ∧ Below w.heap.size w w' := by
  have hR : All w [.low (.els B 32 Al nl (hvs l)), .kept w w.heap.size] := ⟨⟨hl, hB⟩, ⟨Below.refl _ _, Nat.le_refl _⟩, trivial⟩
  have hsl := Lib.hid hs
  have HNL := Lib.hid hnl
  have HL32 := Lib.hid hl32
  obtain ⟨kh, hkx⟩ : ∃ kh : Nat, x % 3 = (kh : Int) := ⟨(x % 3).toNat, by omega⟩
  have hk3 : kh < 3 := by omega
  have HX := Lib.hid hkx
  clear hs hnl hl hl32 hkx
  go_enter Try.func4, Try.ntmps4
  go_upto_region 1 with (fail)
  refine wp_gen (hR.new (l := seed.map bv) _ 23 rfl rfl) ?_
  intro W0 hI
  refine wp_region_hops 5 [14, 15, 16, 17, 7] _
    [.eq (.agg (seed.map bv).toArray), .eq (.int .i64 x), .eq (.int .i64 kh), .eq (.agg (siCells seed kh 0).toArray), .box (w.heap.size + 1) 25 siz]
    (by kernel_rfl) (by kernel_rfl) hI rfl ?hops ?fin
  case hops =>
    refine ⟨?_, ?_, ?_, ?_, ?_, trivial⟩
    · intro a W hW hb hd K hK
      have b3 := hb 3 rfl
      refine wp_load_mid 23 (.tmp 3) rfl w.heap.size 0 (by simp [Act.eval, b3]) (seed.map bv) _ (Cells.range (hW.at_ 0 rfl)) Try.underlying23 rfl (by rw [List.length_map, hsl.out]; kernel_rfl) ?_
      exact hK _ _ (World.grownBy.refl _ _) rfl
    · intro a W hW hb hd K hK
      have b1 := hb 1 rfl
      go_simp
      exact hK _ _ (World.grownBy.refl _ _) rfl
    · intro a W hW hb hd K hK
      have b15 : a.tmps[15]?.getD undef = _ := hd ⟨1, .data⟩ (by simp) rfl
      go_simp
      refine (low_any W x).mono ?_
      rintro e w' ⟨rfl, hb'⟩
      exact hK _ _ (grown_of_below hb') (congrArg (Value.int .i64) HX.out)
    · intro a W hW hb hd K hK
      have b14 : a.tmps[14]?.getD undef = _ := hd ⟨0, .data⟩ (by simp) rfl
      have b16 : a.tmps[16]?.getD undef = _ := hd ⟨2, .data⟩ (by simp) rfl
      refine wp_bld 25 [(0, .tmp 14), (1, .tmp 16)] rfl _ _ #[(0, 16), (16, 1), (17, 1)] (siCells seed kh 0).toArray zero_si Try.underlying25 (fun w => by kernel_rfl) (by simp only [List.map_cons, List.map_nil]; rw [show a.eval (.tmp 14) = _ from by simp only [Act.eval, Array.getD_eq_getD_getElem?]; exact b14, show a.eval (.tmp 16) = _ from by simp only [Act.eval, Array.getD_eq_getD_getElem?]; exact b16]; exact fill_si0 seed kh hsl.out) ?_
      exact hK _ _ (World.grownBy.refl _ _) rfl
    · intro a W hW hb hd K hK
      go_simp
      exact hK _ _ (grown_alloc _ _) ⟨_, rfl, Cells.lt (hW.at_ 0 rfl), Cells.new _ _ _⟩
  case fin =>
    intro vs V hV hv
    have e3 : vs 3 = _ := hv 3 (by decide)
    obtain ⟨g7, e4, hg7, hC7⟩ := (hv 4 (by decide) : VF.ok (.box (w.heap.size + 1) 25 siz) (vs 4) V)
    clear hv hI
    simp only [putAll, List.drop_succ_cons, List.drop_zero, e3, e4, Act.put, List.setIfInBounds_toArray, List.set_cons_succ, List.set_cons_zero]
    clear e3 e4
    have hV1 : All V [.cells g7 25 siz, .cells w.heap.size 23 (seed.map bv), .low (.els B 32 Al nl (hvs l)), .kept w w.heap.size] := ⟨hC7, hV⟩
    clear hV hC7
    refine wl_store_at hV1 0 rfl 25 (.tmp 7) (.tmp 17) rfl g7 _ _ (siCells seed kh 0) rfl rfl rfl (by rw [si_len _ _ _ hsl.out]; rfl) (by rw [si_len _ _ _ hsl.out]; kernel_rfl) (si_one _ _ _) (by simp [Apart, Res.apart, Low.els] <;> omega) ?_
    intro V2 hV2 hs2
    simp only [List.set_cons_zero] at hV2
    have c1 := si_at16 hsl.out (hV2.at_ 0 rfl)
    clear hV1 hs2
    go_wp2_with (refine wl_load_at rfl 23 (.tmp 3) rfl w.heap.size _ _ (hV2.at_ 1 rfl) rfl _ Try.underlying23 rfl (by rw [List.length_map, hsl.out]; kernel_rfl) ?_)
    refine (New_any V2 seed kh hsl.out (by omega)).mono ?_
    rintro e V3 ⟨rfl, hb3⟩
    have hV3 := hV2.call hb3
    have hs3 := hb3.size
    have hr16 := Lib.hid (rootS_len seed kh)
    have hvf : Hid (∀ r, rootS seed kh = r → ∀ d (kn : Nat), kn < 2 ^ kh → verifyB kh kn r d (signS seed kn d) (pathS seed kh kn) = true) := Lib.hid (fun r hr d (kn : Nat) hkn => by rw [← hr]; exact signed_verifies seed d kh kn (by omega) hkn)
    have hg73 : g7 < V3.heap.size := Cells.lt hV3.1
    clear hV2 hb3 c1
    generalize hrt : rootS seed kh = root at *
    have HVF := Lib.hid (hvf.out root rfl)
    clear hrt hvf
    obtain ⟨g8, hg8⟩ : ∃ g8, g8 = V3.heap.size := ⟨_, rfl⟩
    go_wp2_with (refine wl_store_at (hV3.new _ _ hg8 rfl) 0 rfl 40 (.tmp 8) _ rfl g8 _ _ (pkCells kh root) rfl (by rw [hg8]; rfl) rfl (by rw [pk_len _ _ hr16.out]; rfl) (by rw [pk_len _ _ hr16.out]; kernel_rfl) (pk_one _ _) (by simp [Apart, Res.apart, Low.els] <;> omega) ?_; intro V4 hV4 hs4)
    have hI0 : All V4 [.cells g7 25 (siCells seed kh (min 0 (2 ^ kh) : Nat)), .cells g8 40 (pkCells kh root), .cells w.heap.size 23 (seed.map bv), .low (.els B 32 Al nl (hvs l)), .kept w w.heap.size] := ⟨by rw [Nat.zero_min]; exact hV4.2.1, hV4.1, hV4.2.2⟩
    have hg8B : w.heap.size + 1 ≤ g8 := by omega
    have hg78 : g7 < g8 := by omega
    simp only [← hg8]
    clear hV3 hV4 hs3 hs4 hg8 hg73
    have h64 := (pow_le64 kh (by omega)).2
    have p1 : IntKind.i64.wrap (2 ^ kh) = ((2 ^ kh : Nat) : Int) := by
      have h65 : (2 : Int) ^ kh = ((2 ^ kh : Nat) : Int) := by simp
      rw [h65]
      generalize 2 ^ kh = q at h64 ⊢
      exact IntWalk.i64_in _ (by omega)
    have p2 : wrap64 (2 ^ kh) = ((2 ^ kh : Nat) : Int) := by have := pow_cast kh (by omega); simpa using this
    go_loopw [10] (fun i wr => ∃ k : Nat, k ≤ nl ∧ k ≤ 6 ∧ i = .int .i64 k ∧ All wr [.cells g7 25 (siCells seed kh (min k (2 ^ kh) : Nat)), .cells g8 40 (pkCells kh root), .cells w.heap.size 23 (seed.map bv), .low (.els B 32 Al nl (hvs l)), .kept w w.heap.size]) (fun i _ => 6 - (intOf i).toNat)
    case atStart => exact ⟨0, by omega, by omega, rfl, hI0⟩
    case round =>
      obtain ⟨k, hk, hk6, rfl, hI⟩ := hrel
      clear hI0
      by_cases q1 : k < nl
      · have d1 : decide ((k : Int) < (nl : Int)) = true := by simp; omega
        by_cases q2 : k < 6
        · have d2 : decide ((k : Int) < 6) = true := by simp; omega
          have hlk : k < l.length := by rw [HNL.out]; exact q1
          obtain ⟨al, rfl, -, -⟩ := Els.row (hI.at_ 3 rfl).1 hlk
          have HD : Hid (∀ W, All W [.cells g7 25 (siCells seed kh (min k (2 ^ kh) : Nat)), .cells g8 40 (pkCells kh root), .cells w.heap.size 23 (seed.map bv), .low (.els B 32 (some al) nl (hvs l)), .kept w w.heap.size] → ∀ j u, (l[k].map bv)[j]? = some u → W.cell? ((al.add (k * 32)).add j) = some u) := Lib.hid (fun W hW => by
            obtain ⟨al', e, -, hcs⟩ := Els.row (hW.at_ 3 rfl).1 hlk
            obtain rfl := Option.some.inj e
            exact hcs)
          have hd32 : Hid (l[k].length = 32) := Lib.hid (HL32.out _ (List.getElem_mem hlk))
          generalize l[k] = dk at *
          obtain ⟨b0, hb7, hb8, hbw, hsW⟩ : ∃ b0, g7 < b0 ∧ g8 < b0 ∧ w.heap.size < b0 ∧ ∀ W, All W [.cells g7 25 (siCells seed kh (min k (2 ^ kh) : Nat)), .cells g8 40 (pkCells kh root), .cells w.heap.size 23 (seed.map bv), .low (.els B 32 (some al) nl (hvs l)), .kept w w.heap.size] → b0 ≤ W.heap.size := ⟨max (g7 + 1) (g8 + 1), by omega, by omega, by omega, fun W hW => Nat.max_le.2 ⟨Cells.lt hW.1, Cells.lt hW.2.1⟩⟩
          have wk0 : (0 : Int) ≤ (k : Int) := by omega
          have wk1 : (k : Int) < (nl : Int) := by omega
          have wk2 : ((k : Int)).toNat = k := by omega
          have wkk : IntKind.i64.wrap ((k : Int) + 1) = (k : Int) + 1 := IntWalk.i64_in _ (by omega)
          go_wp2_with fail
          by_cases q3 : k < 2 ^ kh
          · obtain ⟨ch, hch⟩ : ∃ ch, ch = signS seed k dk := ⟨_, rfl⟩
            obtain ⟨pt, hpt⟩ : ∃ pt, pt = pathS seed kh k := ⟨_, rfl⟩
            obtain ⟨R, hRd⟩ : ∃ R : SgnR, R = ⟨siCells seed kh ((k : Int) + 1), k, ch, pt, 0⟩ := ⟨_, rfl⟩
            have HR : Hid (signR seed dk kh (min k (2 ^ kh) : Nat) = R) := Lib.hid (by rw [Nat.min_eq_left (by omega), signR_make seed dk kh k (by omega) q3, hRd, hch, hpt])
            have HRD := Lib.hid hRd
            clear hRd
            have HSL : Hid ((siCells seed kh ((k : Int) + 1)).length = 18) := Lib.hid (si_len _ _ _ hsl.out)
            have HS1 : Hid (∀ v ∈ siCells seed kh ((k : Int) + 1), v.oneCell' = true) := Lib.hid (si_one _ _ _)
            have HC16 : Hid (∀ x ∈ ch, x.length = 16) := Lib.hid (by rw [hch]; exact signS_each _ _ _)
            have HP16 : Hid (∀ x ∈ pt, x.length = 16) := Lib.hid (by rw [hpt]; exact pathS_each _ _ _ q3)
            have HSh : Hid (shapedB kh k ch.length pt.length = true) := Lib.hid (by
              rw [hch, hpt, signS_len, pathS_len, shapedB_iff]
              refine ⟨⟨by omega, by omega⟩, by omega, ?_, rfl, rfl⟩
              rw [Int.toNat_natCast]
              exact_mod_cast q3)
            have HVf : Hid (verifyB kh k root dk ch pt = true) := Lib.hid (by rw [hch, hpt]; exact HVF.out dk k q3)
            have hgt : decide (((2 ^ kh : Nat) : Int) ≤ (k : Int)) = false := by simp only [decide_eq_false_iff_not]; omega
            have hgt2 : decide ((2 : Int) ^ kh ≤ (k : Int)) = false := by
              simp only [decide_eq_false_iff_not]
              have : ¬ (((2 ^ kh : Nat) : Int) ≤ (k : Int)) := by omega
              intro hc
              exact this (by exact_mod_cast hc)
            clear hch hpt
            refine wp_region_hops_late 12 8 10 [38, 39, 40, 41, 42, 43, 37, 44, 45, 46, 11, 12] _
              [.eq (.agg (siCells seed kh (min k (2 ^ kh) : Nat)).toArray), .eq (.slice (some al) nl cl), .eq (.int .i64 k), .eq (.pointer (some (al.add (k * 32)))), .eq (.agg (dk.map bv).toArray), .sgn b0 23 R, .sgn b0 23 R, .eq (.agg R.si.toArray), .sgc b0 23 R, .eq (.int .i64 R.err), .box b0 25 siz, .box b0 30 sgz]
              (by kernel_rfl) (by kernel_rfl) (fun _ t _ _ _ h => by cases t <;> exact h) hI rfl ?hops ?flts ?fin
            case hops =>
              refine ⟨?_, ?_, ?_, ?_, ?_, ?_, ?_, ?_, ?_, ?_, ?_, ?_, trivial⟩
              · intro a W hW hb hd K hK
                have b7 := hb 7 rfl
                refine wp_load_mid 25 (.tmp 7) rfl g7 0 (by simp [Act.eval, b7]) (siCells seed kh (min k (2 ^ kh) : Nat)) _ (Cells.range (hW.at_ 0 rfl)) Try.underlying25 rfl (by rw [si_len _ _ _ hsl.out]; kernel_rfl) ?_
                exact hK _ _ (World.grownBy.refl _ _) rfl
              · intro a W hW hb hd K hK
                have b2 := hb 2 rfl
                go_simp
                exact hK _ _ (World.grownBy.refl _ _) rfl
              · intro a W hW hb hd K hK
                have b10 := hb 10 rfl
                go_simp
                exact hK _ _ (World.grownBy.refl _ _) rfl
              · intro a W hW hb hd K hK
                have b39 : a.tmps[39]?.getD undef = _ := hd ⟨1, .data⟩ (by simp) rfl
                have b40 : a.tmps[40]?.getD undef = _ := hd ⟨2, .data⟩ (by simp) rfl
                go_simp
                exact hK _ _ (World.grownBy.refl _ _) rfl
              · intro a W hW hb hd K hK
                have b41 : a.tmps[41]?.getD undef = _ := hd ⟨3, .data⟩ (by simp) rfl
                refine wp_load_any 27 (.tmp 41) rfl (al.add (k * 32)) (by simp [Act.eval, b41]) (dk.map bv) _ (HD.out W hW) Try.underlying27 rfl (by rw [List.length_map, hd32.out]; kernel_rfl) ?_
                exact hK _ _ (World.grownBy.refl _ _) rfl
              · intro a W hW hb hd K hK
                have b38 : a.tmps[38]?.getD undef = _ := hd ⟨0, .data⟩ (by simp) rfl
                have b42 : a.tmps[42]?.getD undef = _ := hd ⟨4, .data⟩ (by simp) rfl
                have hsz := hsW W hW
                go_simp
                refine (Sign_own W seed dk kh (min k (2 ^ kh) : Nat) hsl.out hd32.out).mono ?_
                rw [HR.out]
                rintro e w' ⟨Ac, cc, Ap, cp, rfl, h1, h2, h3, hb'⟩
                exact hK _ _ (grown_of_below hb') ⟨Nat.le_trans hsz hb'.size, Ac, cc, Ap, cp, rfl, h1.less hsz, h2.less hsz, h3⟩
              · intro a W hW hb hd K hK
                have q43 : VF.ok (.sgn b0 23 R) (a.tmps[43]?.getD undef) W := hd ⟨5, .data⟩ (by simp) rfl
                go_simp
                exact hK _ _ (World.grownBy.refl _ _) q43
              · intro a W hW hb hd K hK
                obtain ⟨hsz, Ac, cc, Ap, cp, q37, h1, h2, h3⟩ := (hd ⟨6, .data⟩ (by simp) rfl : VF.ok (.sgn b0 23 R) (a.tmps[37]?.getD undef) W)
                replace q37 : a.tmps[37]?.getD undef = _ := q37
                go_simp
                exact hK _ _ (World.grownBy.refl _ _) rfl
              · intro a W hW hb hd K hK
                obtain ⟨hsz, Ac, cc, Ap, cp, q37, h1, h2, h3⟩ := (hd ⟨6, .data⟩ (by simp) rfl : VF.ok (.sgn b0 23 R) (a.tmps[37]?.getD undef) W)
                replace q37 : a.tmps[37]?.getD undef = _ := q37
                go_simp
                exact hK _ _ (World.grownBy.refl _ _) ⟨hsz, Ac, cc, Ap, cp, rfl, h1, h2, h3⟩
              · intro a W hW hb hd K hK
                obtain ⟨hsz, Ac, cc, Ap, cp, q37, h1, h2, h3⟩ := (hd ⟨6, .data⟩ (by simp) rfl : VF.ok (.sgn b0 23 R) (a.tmps[37]?.getD undef) W)
                replace q37 : a.tmps[37]?.getD undef = _ := q37
                go_simp
                exact hK _ _ (World.grownBy.refl _ _) rfl
              · intro a W hW hb hd K hK
                go_simp
                exact hK _ _ (grown_alloc _ _) ⟨_, rfl, hsW W hW, Cells.new _ _ _⟩
              · intro a W hW hb hd K hK
                go_simp
                exact hK _ _ (grown_alloc _ _) ⟨_, rfl, hsW W hW, Cells.new _ _ _⟩
            case flts =>
              refine ⟨?_, ?_, trivial⟩
              · intro a W hW hb hd
                obtain ⟨hsz, Ac, cc, Ap, cp, q37, h1, h2, h3⟩ := (hd ⟨6, .data⟩ (by simp) rfl : VF.ok (.sgn b0 23 R) (a.tmps[37]?.getD undef) W)
                replace q37 : a.tmps[37]?.getD undef = _ := q37
                refine ⟨.agg (sgCells R.leaf Ac R.chain.length cc Ap R.path.length cp).toArray, .inl ⟨rfl, fun w => ?_⟩, ⟨hsz, Ac, cc, Ap, cp, rfl, h1, h2, h3⟩⟩
                go_simp
              · intro a W hW hb hd
                obtain ⟨hsz, Ac, cc, Ap, cp, q37, h1, h2, h3⟩ := (hd ⟨6, .data⟩ (by simp) rfl : VF.ok (.sgn b0 23 R) (a.tmps[37]?.getD undef) W)
                replace q37 : a.tmps[37]?.getD undef = _ := q37
                refine ⟨.int .i64 R.err, .inl ⟨rfl, fun w => ?_⟩, rfl⟩
                go_simp
            case fin =>
              intro vs V hV hv
              have e7 : vs 7 = _ := hv 7 (by decide)
              have e9 : vs 9 = _ := hv 9 (by decide)
              obtain ⟨hsz, Ac, cc, Ap, cp, e8, hO1, hO2, hO3⟩ := (hv 8 (by decide) : VF.ok (.sgc b0 23 R) (vs 8) V)
              obtain ⟨g11, e10, hg11, hC11⟩ := (hv 10 (by decide) : VF.ok (.box b0 25 siz) (vs 10) V)
              obtain ⟨g12, e11, hg12, hC12⟩ := (hv 11 (by decide) : VF.ok (.box b0 30 sgz) (vs 11) V)
              have HDD := HD
              clear hv hI HD hsW
              simp only [putAll, List.drop_succ_cons, List.drop_zero, e7, e8, e9, e10, e11, Act.put, List.setIfInBounds_toArray, List.set_cons_succ, List.set_cons_zero]
              clear e7 e8 e9 e10 e11
              have hgg : g11 ≠ g12 := hC11.ne hC12 (by decide)
              have ha1 := hO1.ne_cells hC11 (by decide)
              have ha2 := hO2.ne_cells hC11 (by decide)
              have hb1 := hO1.ne_cells hC12 (by decide)
              have hb2 := hO2.ne_cells hC12 (by decide)
              have hx1 : (Value.slice Ac R.chain.length cc).ownBlock ≠ some g7 := fun e => by have := (hO1.lt e).1; omega
              have hx2 : (Value.slice Ap R.path.length cp).ownBlock ≠ some g7 := fun e => by have := (hO2.lt e).1; omega
              obtain rfl := HRD.out
              clear HRD
              dsimp only at *
              try simp only [List.length_nil] at ha1 ha2 hb1 hb2 hx1 hx2
              have hV1 : All V (.cells g11 25 siz :: .cells g12 30 sgz :: .own b0 23 16 Ac ch.length cc (hvs ch).flatten :: .own b0 23 16 Ap pt.length cp (hvs pt).flatten :: [.cells g7 25 (siCells seed kh (min k (2 ^ kh) : Nat)), .cells g8 40 (pkCells kh root), .cells w.heap.size 23 (seed.map bv), .low (.els B 32 (some al) nl (hvs l)), .kept w w.heap.size]) := ⟨hC11, hC12, hO1, hO2, hV⟩
              clear hV hC11 hC12 hO1 hO2 hsz
              refine wl_store_at hV1 0 rfl 25 (.tmp 11) (.tmp 44) rfl g11 _ _ (siCells seed kh ((k : Int) + 1)) rfl rfl rfl (by first | (rw [HSL.out]; done) | (rw [HSL.out]; rfl)) (by rw [HSL.out]; kernel_rfl) HS1.out (by simp [Apart, Res.apart, Low.els, hgg, hgg.symm, ha1, ha2] <;> omega) ?_
              intro V2 hV2 hs2
              refine wl_store_at hV2 1 rfl 30 (.tmp 12) (.tmp 45) rfl g12 _ _ (sgCells k Ac ch.length cc Ap pt.length cp) rfl rfl rfl rfl (by kernel_rfl) (sg_one _ _ _ _ _ _ _) (by simp [Apart, Res.apart, Low.els, hgg, hgg.symm, hb1, hb2] <;> omega) ?_
              intro V3 hV3 hs3
              simp only [List.set_cons_zero, List.set_cons_succ] at hV3
              clear hV1 hV2 hs2 hs3
              have c1 := si_at16 hsl.out (hV3.at_ 4 rfl)
              have HD2 : Hid (∀ W, All W (.cells g11 25 (siCells seed kh ((k : Int) + 1)) :: .cells g12 30 (sgCells k Ac ch.length cc Ap pt.length cp) :: .own b0 23 16 Ac ch.length cc (hvs ch).flatten :: .own b0 23 16 Ap pt.length cp (hvs pt).flatten :: [.cells g7 25 (siCells seed kh (min k (2 ^ kh) : Nat)), .cells g8 40 (pkCells kh root), .cells w.heap.size 23 (seed.map bv), .low (.els B 32 (some al) nl (hvs l)), .kept w w.heap.size]) → ∀ j u, (dk.map bv)[j]? = some u → W.cell? ((al.add (k * 32)).add j) = some u) := Lib.hid (fun W hW => HDD.out W ⟨hW.2.2.2.2.1, hW.2.2.2.2.2⟩)
              go_wp2_with fail
              clear c1
              refine wp_region_hops 30 [60, 61, 62, 63, 64, 65, 66, 67, 68, 69, 70, 71, 72, 73, 74, 75, 76, 77, 78, 79, 80, 81, 82, 83, 84, 85, 86, 87, 88, 89] _
                [.eq (.int .i64 0), .eq (.bool false), .eq (.bool false), .eq (.pointer (some ⟨g12, 0, none⟩)), .eq (.int .i64 k), .eq (.int .i64 k), .eq (.bool false), .eq (.bool false), .eq (.bool false), .eq (.pointer (some ⟨g11, 17, none⟩)), .eq (.int .i64 ((k : Int) + 1)), .eq (.int .i64 k), .eq (.int .i64 ((k : Int) + 1)), .eq (.bool false), .eq (.bool false), .eq (.bool false), .eq (.agg (pkCells kh root).toArray), .eq (.agg (sgCells k Ac ch.length cc Ap pt.length cp).toArray), .eq (.bool true), .eq (.bool false), .eq (.bool false), .eq (.bool false), .eq (.agg (pkCells kh root).toArray), .eq (.slice (some al) nl cl), .eq (.int .i64 k), .eq (.pointer (some (al.add (k * 32)))), .eq (.agg (dk.map bv).toArray), .eq (.agg (sgCells k Ac ch.length cc Ap pt.length cp).toArray), .eq (.bool true), .eq (.bool false)]
                (by kernel_rfl) (by kernel_rfl) hV3 rfl ?hops ?fin
              case hops =>
                refine ⟨?_, ?_, ?_, ?_, ?_, ?_, ?_, ?_, ?_, ?_, ?_, ?_, ?_, ?_, ?_, ?_, ?_, ?_, ?_, ?_, ?_, ?_, ?_, ?_, ?_, ?_, ?_, ?_, ?_, ?_, trivial⟩
                · intro a W hW hb hd K hK
                  have b13 := hb 13 rfl
                  go_simp
                  exact hK _ _ (World.grownBy.refl _ _) rfl
                · intro a W hW hb hd K hK
                  have b60 : a.tmps[60]?.getD undef = _ := hd ⟨0, .data⟩ (by simp) rfl
                  go_simp
                  exact hK _ _ (World.grownBy.refl _ _) rfl
                · intro a W hW hb hd K hK
                  have b61 : a.tmps[61]?.getD undef = _ := hd ⟨1, .data⟩ (by simp) rfl
                  go_simp
                  exact hK _ _ (World.grownBy.refl _ _) rfl
                · refine Or.inl ⟨fun v w h => h, ?_⟩
                  intro a W hW hb hd K hK
                  have b12 := hb 12 rfl
                  go_simp
                  exact hK _ _ (World.grownBy.refl _ _) rfl
                · refine Or.inl ⟨fun v w h => h, ?_⟩
                  intro a W hW hb hd K hK
                  have b63 : a.tmps[63]?.getD undef = _ := hd ⟨3, .data⟩ (by simp) rfl
                  have q1 : W.cell? ⟨g12, 0, none⟩ = some (.int .i64 k) := Cells.cell (hW.at_ 1 rfl) (i := 0) (by simp [sgCells])
                  go_simp
                  exact hK _ _ (World.grownBy.refl _ _) rfl
                · refine Or.inl ⟨fun v w h => h, ?_⟩
                  intro a W hW hb hd K hK
                  have b10 := hb 10 rfl
                  go_simp
                  exact hK _ _ (World.grownBy.refl _ _) rfl
                · refine Or.inl ⟨fun v w h => h, ?_⟩
                  intro a W hW hb hd K hK
                  have b64 : a.tmps[64]?.getD undef = _ := hd ⟨4, .data⟩ (by simp) rfl
                  have b65 : a.tmps[65]?.getD undef = _ := hd ⟨5, .data⟩ (by simp) rfl
                  go_simp
                  exact hK _ _ (World.grownBy.refl _ _) rfl
                · intro a W hW hb hd K hK
                  have b62 : a.tmps[62]?.getD undef = _ := hd ⟨2, .data⟩ (by simp) rfl
                  have b66 : a.tmps[66]?.getD undef = _ := hd ⟨6, .data⟩ (by simp) rfl
                  go_simp
                  exact hK _ _ (World.grownBy.refl _ _) rfl
                · intro a W hW hb hd K hK
                  have b67 : a.tmps[67]?.getD undef = _ := hd ⟨7, .data⟩ (by simp) rfl
                  go_simp
                  exact hK _ _ (World.grownBy.refl _ _) rfl
                · refine Or.inl ⟨fun v w h => h, ?_⟩
                  intro a W hW hb hd K hK
                  have b11 := hb 11 rfl
                  go_simp
                  exact hK _ _ (World.grownBy.refl _ _) rfl
                · refine Or.inl ⟨fun v w h => h, ?_⟩
                  intro a W hW hb hd K hK
                  have b69 : a.tmps[69]?.getD undef = _ := hd ⟨9, .data⟩ (by simp) rfl
                  have q2 := si_at17 hsl.out (hW.at_ 0 rfl)
                  go_simp
                  exact hK _ _ (World.grownBy.refl _ _) rfl
                · refine Or.inl ⟨fun v w h => h, ?_⟩
                  intro a W hW hb hd K hK
                  have b10 := hb 10 rfl
                  go_simp
                  exact hK _ _ (World.grownBy.refl _ _) rfl
                · refine Or.inl ⟨fun v w h => h, ?_⟩
                  intro a W hW hb hd K hK
                  have b71 : a.tmps[71]?.getD undef = _ := hd ⟨11, .data⟩ (by simp) rfl
                  go_simp
                  exact hK _ _ (World.grownBy.refl _ _) rfl
                · refine Or.inl ⟨fun v w h => h, ?_⟩
                  intro a W hW hb hd K hK
                  have b70 : a.tmps[70]?.getD undef = _ := hd ⟨10, .data⟩ (by simp) rfl
                  have b72 : a.tmps[72]?.getD undef = _ := hd ⟨12, .data⟩ (by simp) rfl
                  go_simp
                  exact hK _ _ (World.grownBy.refl _ _) rfl
                · intro a W hW hb hd K hK
                  have b68 : a.tmps[68]?.getD undef = _ := hd ⟨8, .data⟩ (by simp) rfl
                  have b73 : a.tmps[73]?.getD undef = _ := hd ⟨13, .data⟩ (by simp) rfl
                  go_simp
                  exact hK _ _ (World.grownBy.refl _ _) rfl
                · intro a W hW hb hd K hK
                  have b74 : a.tmps[74]?.getD undef = _ := hd ⟨14, .data⟩ (by simp) rfl
                  go_simp
                  exact hK _ _ (World.grownBy.refl _ _) rfl
                · refine Or.inl ⟨fun v w h => h, ?_⟩
                  intro a W hW hb hd K hK
                  have b8 := hb 8 rfl
                  refine wp_load_mid 40 (.tmp 8) rfl g8 0 (by simp [Act.eval, b8]) (pkCells kh root) _ (Cells.range (hW.at_ 5 rfl)) Try.underlying40 rfl (by rw [pk_len _ _ hr16.out]; kernel_rfl) ?_
                  exact hK _ _ (World.grownBy.refl _ _) rfl
                · refine Or.inl ⟨fun v w h => h, ?_⟩
                  intro a W hW hb hd K hK
                  have b12 := hb 12 rfl
                  refine wp_load_mid 30 (.tmp 12) rfl g12 0 (by simp [Act.eval, b12]) (sgCells k Ac ch.length cc Ap pt.length cp) _ (Cells.range (hW.at_ 1 rfl)) Try.underlying30 rfl (by kernel_rfl) ?_
                  exact hK _ _ (World.grownBy.refl _ _) rfl
                · refine Or.inl ⟨fun v w h => h, ?_⟩
                  intro a W hW hb hd K hK
                  have b76 : a.tmps[76]?.getD undef = _ := hd ⟨16, .data⟩ (by simp) rfl
                  have b77 : a.tmps[77]?.getD undef = _ := hd ⟨17, .data⟩ (by simp) rfl
                  go_simp
                  refine (Shaped_any W root hr16.out k Ac ch.length cc Ap pt.length cp kh).mono ?_
                  rintro e w' ⟨rfl, hb'⟩
                  exact hK _ _ (grown_of_below hb') (congrArg Value.bool HSh.out)
                · refine Or.inl ⟨fun v w h => h, ?_⟩
                  intro a W hW hb hd K hK
                  have b78 : a.tmps[78]?.getD undef = _ := hd ⟨18, .data⟩ (by simp) rfl
                  go_simp
                  exact hK _ _ (World.grownBy.refl _ _) rfl
                · intro a W hW hb hd K hK
                  have b75 : a.tmps[75]?.getD undef = _ := hd ⟨15, .data⟩ (by simp) rfl
                  have b79 : a.tmps[79]?.getD undef = _ := hd ⟨19, .data⟩ (by simp) rfl
                  go_simp
                  exact hK _ _ (World.grownBy.refl _ _) rfl
                · intro a W hW hb hd K hK
                  have b80 : a.tmps[80]?.getD undef = _ := hd ⟨20, .data⟩ (by simp) rfl
                  go_simp
                  exact hK _ _ (World.grownBy.refl _ _) rfl
                · refine Or.inl ⟨fun v w h => h, ?_⟩
                  intro a W hW hb hd K hK
                  have b8 := hb 8 rfl
                  refine wp_load_mid 40 (.tmp 8) rfl g8 0 (by simp [Act.eval, b8]) (pkCells kh root) _ (Cells.range (hW.at_ 5 rfl)) Try.underlying40 rfl (by rw [pk_len _ _ hr16.out]; kernel_rfl) ?_
                  exact hK _ _ (World.grownBy.refl _ _) rfl
                · refine Or.inl ⟨fun v w h => h, ?_⟩
                  intro a W hW hb hd K hK
                  have b2 := hb 2 rfl
                  go_simp
                  exact hK _ _ (World.grownBy.refl _ _) rfl
                · refine Or.inl ⟨fun v w h => h, ?_⟩
                  intro a W hW hb hd K hK
                  have b10 := hb 10 rfl
                  go_simp
                  exact hK _ _ (World.grownBy.refl _ _) rfl
                · refine Or.inl ⟨fun v w h => h, ?_⟩
                  intro a W hW hb hd K hK
                  have b83 : a.tmps[83]?.getD undef = _ := hd ⟨23, .data⟩ (by simp) rfl
                  have b84 : a.tmps[84]?.getD undef = _ := hd ⟨24, .data⟩ (by simp) rfl
                  go_simp
                  exact hK _ _ (World.grownBy.refl _ _) rfl
                · refine Or.inl ⟨fun v w h => h, ?_⟩
                  intro a W hW hb hd K hK
                  have b85 : a.tmps[85]?.getD undef = _ := hd ⟨25, .data⟩ (by simp) rfl
                  refine wp_load_any 27 (.tmp 85) rfl (al.add (k * 32)) (by simp [Act.eval, b85]) (dk.map bv) _ (HD2.out W hW) Try.underlying27 rfl (by rw [List.length_map, hd32.out]; kernel_rfl) ?_
                  exact hK _ _ (World.grownBy.refl _ _) rfl
                · refine Or.inl ⟨fun v w h => h, ?_⟩
                  intro a W hW hb hd K hK
                  have b12 := hb 12 rfl
                  refine wp_load_mid 30 (.tmp 12) rfl g12 0 (by simp [Act.eval, b12]) (sgCells k Ac ch.length cc Ap pt.length cp) _ (Cells.range (hW.at_ 1 rfl)) Try.underlying30 rfl (by kernel_rfl) ?_
                  exact hK _ _ (World.grownBy.refl _ _) rfl
                · refine Or.inl ⟨fun v w h => h, ?_⟩
                  intro a W hW hb hd K hK
                  have b82 : a.tmps[82]?.getD undef = _ := hd ⟨22, .data⟩ (by simp) rfl
                  have b86 : a.tmps[86]?.getD undef = _ := hd ⟨26, .data⟩ (by simp) rfl
                  have b87 : a.tmps[87]?.getD undef = _ := hd ⟨27, .data⟩ (by simp) rfl
                  go_simp
                  refine (Verify_at W W.heap.size kh k root dk ch pt Ac ch.length cc Ap pt.length cp rfl rfl hr16.out hd32.out (Els.of (hW.at_ 2 rfl) (hvs_each HC16.out) (by rw [hvs_len])) HC16.out (Els.of (hW.at_ 3 rfl) (hvs_each HP16.out) (by rw [hvs_len])) HP16.out (Nat.le_refl _)).mono ?_
                  rintro e w' ⟨rfl, hb'⟩
                  exact hK _ _ (grown_of_below hb') (congrArg Value.bool HVf.out)
                · refine Or.inl ⟨fun v w h => h, ?_⟩
                  intro a W hW hb hd K hK
                  have b88 : a.tmps[88]?.getD undef = _ := hd ⟨28, .data⟩ (by simp) rfl
                  go_simp
                  exact hK _ _ (World.grownBy.refl _ _) rfl
              case fin =>
                intro vs W hW hv
                have e21 : vs 21 = _ := hv 21 (by decide)
                have e29 : vs 29 = _ := hv 29 (by decide)
                clear hv hV3
                simp only [putAll, List.drop_succ_cons, List.drop_zero, e21, e29, Act.put, List.setIfInBounds_toArray, List.set_cons_succ, List.set_cons_zero]
                clear e21 e29
                go_wp2_with (first | (refine wl_load_at rfl 25 (.tmp 11) rfl g11 _ _ (hW.at_ 0 rfl) rfl _ Try.underlying25 rfl (by rw [HSL.out]; kernel_rfl) ?_) | (refine wl_store_at hW 4 rfl 25 (.tmp 7) (.tmp 91) rfl g7 _ _ (siCells seed kh ((k : Int) + 1)) rfl rfl rfl (by rw [HSL.out, si_len _ _ _ hsl.out]) (by rw [HSL.out]; kernel_rfl) HS1.out (by simp [Apart, Res.apart, Low.els, hx1, hx2] <;> omega) ?_; intro W5 hW5 hs5))
                refine ⟨⟨k + 1, by omega, by omega, by go_num, ?_⟩, by simp [intOf]; omega⟩
                rw [Nat.min_eq_left (by omega)]
                exact hW5.2.2.2.2
          · obtain ⟨R, hRd⟩ : ∃ R : SgnR, R = ⟨siz, 0, [], [], 13⟩ := ⟨_, rfl⟩
            have HR : Hid (signR seed dk kh (min k (2 ^ kh) : Nat) = R) := Lib.hid (by rw [Nat.min_eq_right (by omega), signR_full seed dk kh (2 ^ kh) (by omega) (Nat.le_refl _), hRd])
            have HRD := Lib.hid hRd
            clear hRd
            have HSL : Hid (siz.length = 18) := Lib.hid rfl
            have HS1 : Hid (∀ v ∈ siz, v.oneCell' = true) := Lib.hid (by decide)
            have heq : ∀ W, (binOp .neq 25 (.agg siz.toArray) (.agg siz.toArray)).run Try.prog W = .ok (.bool false) W := fun W => ne_si W (List.replicate 16 0) 0 0 rfl (by decide) (by decide) (by decide) (by decide)
            have hgt : decide (((2 ^ kh : Nat) : Int) ≤ (k : Int)) = true := by simp only [decide_eq_true_eq]; omega
            have hgt2 : decide ((2 : Int) ^ kh ≤ (k : Int)) = true := by
              simp only [decide_eq_true_eq]
              have : ((2 ^ kh : Nat) : Int) ≤ (k : Int) := by omega
              exact_mod_cast this
            refine wp_region_hops_late 12 8 10 [38, 39, 40, 41, 42, 43, 37, 44, 45, 46, 11, 12] _
              [.eq (.agg (siCells seed kh (min k (2 ^ kh) : Nat)).toArray), .eq (.slice (some al) nl cl), .eq (.int .i64 k), .eq (.pointer (some (al.add (k * 32)))), .eq (.agg (dk.map bv).toArray), .sgn b0 23 R, .sgn b0 23 R, .eq (.agg R.si.toArray), .sgc b0 23 R, .eq (.int .i64 R.err), .box b0 25 siz, .box b0 30 sgz]
              (by kernel_rfl) (by kernel_rfl) (fun _ t _ _ _ h => by cases t <;> exact h) hI rfl ?hops ?flts ?fin
            case hops =>
              refine ⟨?_, ?_, ?_, ?_, ?_, ?_, ?_, ?_, ?_, ?_, ?_, ?_, trivial⟩
              · intro a W hW hb hd K hK
                have b7 := hb 7 rfl
                refine wp_load_mid 25 (.tmp 7) rfl g7 0 (by simp [Act.eval, b7]) (siCells seed kh (min k (2 ^ kh) : Nat)) _ (Cells.range (hW.at_ 0 rfl)) Try.underlying25 rfl (by rw [si_len _ _ _ hsl.out]; kernel_rfl) ?_
                exact hK _ _ (World.grownBy.refl _ _) rfl
              · intro a W hW hb hd K hK
                have b2 := hb 2 rfl
                go_simp
                exact hK _ _ (World.grownBy.refl _ _) rfl
              · intro a W hW hb hd K hK
                have b10 := hb 10 rfl
                go_simp
                exact hK _ _ (World.grownBy.refl _ _) rfl
              · intro a W hW hb hd K hK
                have b39 : a.tmps[39]?.getD undef = _ := hd ⟨1, .data⟩ (by simp) rfl
                have b40 : a.tmps[40]?.getD undef = _ := hd ⟨2, .data⟩ (by simp) rfl
                go_simp
                exact hK _ _ (World.grownBy.refl _ _) rfl
              · intro a W hW hb hd K hK
                have b41 : a.tmps[41]?.getD undef = _ := hd ⟨3, .data⟩ (by simp) rfl
                refine wp_load_any 27 (.tmp 41) rfl (al.add (k * 32)) (by simp [Act.eval, b41]) (dk.map bv) _ (HD.out W hW) Try.underlying27 rfl (by rw [List.length_map, hd32.out]; kernel_rfl) ?_
                exact hK _ _ (World.grownBy.refl _ _) rfl
              · intro a W hW hb hd K hK
                have b38 : a.tmps[38]?.getD undef = _ := hd ⟨0, .data⟩ (by simp) rfl
                have b42 : a.tmps[42]?.getD undef = _ := hd ⟨4, .data⟩ (by simp) rfl
                have hsz := hsW W hW
                go_simp
                refine (Sign_own W seed dk kh (min k (2 ^ kh) : Nat) hsl.out hd32.out).mono ?_
                rw [HR.out]
                rintro e w' ⟨Ac, cc, Ap, cp, rfl, h1, h2, h3, hb'⟩
                exact hK _ _ (grown_of_below hb') ⟨Nat.le_trans hsz hb'.size, Ac, cc, Ap, cp, rfl, h1.less hsz, h2.less hsz, h3⟩
              · intro a W hW hb hd K hK
                have q43 : VF.ok (.sgn b0 23 R) (a.tmps[43]?.getD undef) W := hd ⟨5, .data⟩ (by simp) rfl
                go_simp
                exact hK _ _ (World.grownBy.refl _ _) q43
              · intro a W hW hb hd K hK
                obtain ⟨hsz, Ac, cc, Ap, cp, q37, h1, h2, h3⟩ := (hd ⟨6, .data⟩ (by simp) rfl : VF.ok (.sgn b0 23 R) (a.tmps[37]?.getD undef) W)
                replace q37 : a.tmps[37]?.getD undef = _ := q37
                go_simp
                exact hK _ _ (World.grownBy.refl _ _) rfl
              · intro a W hW hb hd K hK
                obtain ⟨hsz, Ac, cc, Ap, cp, q37, h1, h2, h3⟩ := (hd ⟨6, .data⟩ (by simp) rfl : VF.ok (.sgn b0 23 R) (a.tmps[37]?.getD undef) W)
                replace q37 : a.tmps[37]?.getD undef = _ := q37
                go_simp
                exact hK _ _ (World.grownBy.refl _ _) ⟨hsz, Ac, cc, Ap, cp, rfl, h1, h2, h3⟩
              · intro a W hW hb hd K hK
                obtain ⟨hsz, Ac, cc, Ap, cp, q37, h1, h2, h3⟩ := (hd ⟨6, .data⟩ (by simp) rfl : VF.ok (.sgn b0 23 R) (a.tmps[37]?.getD undef) W)
                replace q37 : a.tmps[37]?.getD undef = _ := q37
                go_simp
                exact hK _ _ (World.grownBy.refl _ _) rfl
              · intro a W hW hb hd K hK
                go_simp
                exact hK _ _ (grown_alloc _ _) ⟨_, rfl, hsW W hW, Cells.new _ _ _⟩
              · intro a W hW hb hd K hK
                go_simp
                exact hK _ _ (grown_alloc _ _) ⟨_, rfl, hsW W hW, Cells.new _ _ _⟩
            case flts =>
              refine ⟨?_, ?_, trivial⟩
              · intro a W hW hb hd
                obtain ⟨hsz, Ac, cc, Ap, cp, q37, h1, h2, h3⟩ := (hd ⟨6, .data⟩ (by simp) rfl : VF.ok (.sgn b0 23 R) (a.tmps[37]?.getD undef) W)
                replace q37 : a.tmps[37]?.getD undef = _ := q37
                refine ⟨.agg (sgCells R.leaf Ac R.chain.length cc Ap R.path.length cp).toArray, .inl ⟨rfl, fun w => ?_⟩, ⟨hsz, Ac, cc, Ap, cp, rfl, h1, h2, h3⟩⟩
                go_simp
              · intro a W hW hb hd
                obtain ⟨hsz, Ac, cc, Ap, cp, q37, h1, h2, h3⟩ := (hd ⟨6, .data⟩ (by simp) rfl : VF.ok (.sgn b0 23 R) (a.tmps[37]?.getD undef) W)
                replace q37 : a.tmps[37]?.getD undef = _ := q37
                refine ⟨.int .i64 R.err, .inl ⟨rfl, fun w => ?_⟩, rfl⟩
                go_simp
            case fin =>
              intro vs V hV hv
              have e7 : vs 7 = _ := hv 7 (by decide)
              have e9 : vs 9 = _ := hv 9 (by decide)
              obtain ⟨hsz, Ac, cc, Ap, cp, e8, hO1, hO2, hO3⟩ := (hv 8 (by decide) : VF.ok (.sgc b0 23 R) (vs 8) V)
              obtain ⟨g11, e10, hg11, hC11⟩ := (hv 10 (by decide) : VF.ok (.box b0 25 siz) (vs 10) V)
              obtain ⟨g12, e11, hg12, hC12⟩ := (hv 11 (by decide) : VF.ok (.box b0 30 sgz) (vs 11) V)
              have HDD := HD
              clear hv hI HD hsW
              simp only [putAll, List.drop_succ_cons, List.drop_zero, e7, e8, e9, e10, e11, Act.put, List.setIfInBounds_toArray, List.set_cons_succ, List.set_cons_zero]
              clear e7 e8 e9 e10 e11
              have hgg : g11 ≠ g12 := hC11.ne hC12 (by decide)
              have ha1 := hO1.ne_cells hC11 (by decide)
              have ha2 := hO2.ne_cells hC11 (by decide)
              have hb1 := hO1.ne_cells hC12 (by decide)
              have hb2 := hO2.ne_cells hC12 (by decide)
              have hx1 : (Value.slice Ac R.chain.length cc).ownBlock ≠ some g7 := fun e => by have := (hO1.lt e).1; omega
              have hx2 : (Value.slice Ap R.path.length cp).ownBlock ≠ some g7 := fun e => by have := (hO2.lt e).1; omega
              obtain rfl := HRD.out
              clear HRD
              dsimp only at *
              try simp only [List.length_nil] at ha1 ha2 hb1 hb2 hx1 hx2
              have hV1 : All V (.cells g11 25 siz :: .cells g12 30 sgz :: .own b0 23 16 Ac ([] : List (List UInt8)).length cc (hvs ([] : List (List UInt8))).flatten :: .own b0 23 16 Ap ([] : List (List UInt8)).length cp (hvs ([] : List (List UInt8))).flatten :: [.cells g7 25 (siCells seed kh (min k (2 ^ kh) : Nat)), .cells g8 40 (pkCells kh root), .cells w.heap.size 23 (seed.map bv), .low (.els B 32 (some al) nl (hvs l)), .kept w w.heap.size]) := ⟨hC11, hC12, hO1, hO2, hV⟩
              clear hV hC11 hC12 hO1 hO2 hsz
              refine wl_store_at hV1 0 rfl 25 (.tmp 11) (.tmp 44) rfl g11 _ _ siz rfl rfl rfl (by first | (rw [HSL.out]; done) | (rw [HSL.out]; rfl)) (by rw [HSL.out]; kernel_rfl) HS1.out (by simp [Apart, Res.apart, Low.els, hgg, hgg.symm, ha1, ha2] <;> omega) ?_
              intro V2 hV2 hs2
              refine wl_store_at hV2 1 rfl 30 (.tmp 12) (.tmp 45) rfl g12 _ _ (sgCells 0 Ac ([] : List (List UInt8)).length cc Ap ([] : List (List UInt8)).length cp) rfl rfl rfl rfl (by kernel_rfl) (sg_one _ _ _ _ _ _ _) (by simp [Apart, Res.apart, Low.els, hgg, hgg.symm, hb1, hb2] <;> omega) ?_
              intro V3 hV3 hs3
              simp only [List.set_cons_zero, List.set_cons_succ] at hV3
              clear hV1 hV2 hs2 hs3
              have c1 := si_at16 hsl.out (hV3.at_ 4 rfl)
              go_wp2_with (first | (refine wl_met rfl fun K hK => ?_; refine wp_load_mid 25 (.tmp 11) rfl g11 0 rfl siz _ (Cells.range (hV3.at_ 0 rfl)) Try.underlying25 rfl (by kernel_rfl) ?_; refine hK _ _ ?_; clear hK K) | (refine wl_met rfl fun K hK => ?_; refine wp_bld 25 [] rfl _ _ #[(0, 16), (16, 1), (17, 1)] siz.toArray zero_si Try.underlying25 (fun w => by kernel_rfl) rfl ?_; refine hK _ _ ?_; clear hK K))
              refine ⟨⟨k + 1, by omega, by omega, by go_num, ?_⟩, by simp [intOf]; omega⟩
              have hmn : min (k + 1) (2 ^ kh) = min k (2 ^ kh) := by omega
              rw [hmn]
              exact hV3.2.2.2.2
        · have d2 : decide ((k : Int) < 6) = false := by simp; omega
          go_wp2_with fail
          refine (awake_any _).mono ?_
          rintro e w7 ⟨rfl, hb7⟩
          have hI7 := hI.call hb7
          go_wp2_with fail
          go_ret
          exact ⟨rfl, (hI7.at_ 4 rfl).1⟩
      · have d1 : decide ((k : Int) < (nl : Int)) = false := by simp; omega
        go_wp2_with fail
        refine (awake_any _).mono ?_
        rintro e w7 ⟨rfl, hb7⟩
        have hI7 := hI.call hb7
        go_wp2_with fail
        go_ret
        exact ⟨rfl, (hI7.at_ 4 rfl).1⟩
end Go.Proofs.Ytlnbeglelhdjfaa

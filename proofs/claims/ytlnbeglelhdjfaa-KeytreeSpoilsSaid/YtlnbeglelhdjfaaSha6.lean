/- SHA-256: the reference's block. -/
import Derived.Test.YtlnbeglelhdjfaaSha4
set_option linter.unusedSimpArgs false
set_option linter.unusedVariables false
namespace Go.Proofs.Ytlnbeglelhdjfaa
open Go Go.RowKit Go.Adm

attribute [local irreducible] KS

theorem rotate_q (x : UInt32) (n : Int) (k : Nat) (hn : n = (k : Int)) (h1 : 1 ≤ k) (h2 : k ≤ 31) (w : World) (m : Nat) :
    Calls Try.prog 58 #[.int .u32 x.toNat, .int .i64 n] (w.drewN m) fun e w'' => e = .returned (.int .u32 (rotr x k).toNat) ∧ ∃ m, w'' = w.drewN m :=
  (rotate_lit x n k hn h1 h2 _).mono fun _ _ ⟨he, hw⟩ => ⟨he, m, hw.symm⟩
theorem rotate_qa (x : UInt32) (n : Int) (k : Nat) (hn : n = (k : Int)) (h1 : 1 ≤ k) (h2 : k ≤ 31) (w : World) (a m : Nat) :
    Calls Try.prog 58 #[.int .u32 x.toNat, .int .i64 n] (w.drewN (a + m)) fun e w'' => e = .returned (.int .u32 (rotr x k).toNat) ∧ ∃ m, w'' = w.drewN (a + m) :=
  (rotate_lit x n k hn h1 h2 _).mono fun _ _ ⟨he, hw⟩ => ⟨he, m, hw.symm⟩

theorem ref_x (h k w e f g : UInt32) :
    (((h.toNat : Int) + (bs1 e).toNat + bits .xor .u32 (bits .and .u32 (e.toNat : Int) (f.toNat : Int)) (bits .and .u32 (bits .xor .u32 4294967295 (e.toNat : Int)) (g.toNat : Int)) + k.toNat) % 4294967296 + w.toNat) % 4294967296 = ((t1 h k w e f g).toNat : Int) := by
  have e1 : (4294967295 : Int) = ((4294967295 : UInt32).toNat : Int) := by decide
  have e2 : (4294967295 : UInt32) ^^^ e = e ^^^ 4294967295 := by
    apply UInt32.toNat_inj.1
    rw [UInt32.toNat_xor, UInt32.toNat_xor, Nat.xor_comm]
  rw [e1, w_xor, e2, w_and, w_and, w_xor]
  show _ = ((h + k + w + chf e f g + bs1 e).toNat : Int)
  unfold chf
  simp only [UInt32.toNat_add]
  omega
theorem ref_y (a b c : UInt32) : (((bs0 a).toNat : Int) + (maj a b c).toNat) % 4294967296 = ((t2 a b c).toNat : Int) := by
  show _ = ((maj a b c + bs0 a).toNat : Int)
  rw [UInt32.toNat_add]; omega
def Keep3 (w wr : World) (s : S8) : Prop := Cells wr w.heap.size 75 (s.list.map uv) ∧ Cells wr (w.heap.size + 1) 75 (List.replicate 8 (.int .u32 0)) ∧ Below w.heap.size w wr
theorem Keep3.store {w wr : World} {s : S8} (h : Keep3 w wr s) {g i : Nat} (hg : w.heap.size + 2 ≤ g) (u : Value) : Keep3 w (wr.setCell ⟨g, i, none⟩ u) s :=
  ⟨h.1.far (by simp; omega) _, h.2.1.far (by simp; omega) _, h.2.2.setCell (by simp; omega) _⟩
theorem Keep3.drewN {w wr : World} {s : S8} (h : Keep3 w wr s) (n : Nat) : Keep3 w (wr.drewN n) s := ⟨h.1.drewN n, h.2.1.drewN n, below_drewN' h.2.2 n⟩
theorem Keep3.alloc {w wr : World} {s : S8} (h : Keep3 w wr s) (o : Obj) : Keep3 w (wr.alloc o) s := ⟨h.1.alloc o, h.2.1.alloc o, h.2.2.alloc (by have := h.2.1.lt; omega) o⟩
theorem Keep3.drew {w wr : World} {s : S8} (h : Keep3 w wr s) : Keep3 w wr.drew s := ⟨h.1.drew, h.2.1.drew, h.2.2.drew⟩
theorem Keep3.grown {w wr w' : World} {s : S8} (h : Keep3 w wr s) {g : Nat} (hb : wr.grownBy w' (some g)) (hg : w.heap.size + 2 ≤ g) : Keep3 w w' s :=
  ⟨h.1.grown hb (by simp; omega), h.2.1.grown hb (by simp; omega), h.2.2.grown hb (by have := h.2.1.lt; omega) (fun k hk => by injection hk with hk; omega)⟩
theorem Keep3.below {w wr w' : World} {s : S8} (h : Keep3 w wr s) {B : Nat} (hb : Below B wr w') (hB : w.heap.size + 2 ≤ B) : Keep3 w w' s :=
  ⟨h.1.below hb (by omega), h.2.1.below hb (by omega), h.2.2.trans (hb.mono (by omega))⟩

set_option maxRecDepth 100000 in
set_option maxHeartbeats 6000000 in
theorem block_any (w : World) (B : Nat) (A : Option Addr) (c : Nat) (b : List UInt8) (s : S8) (h : Rd w B 1 A 64 (b.map bv)) (hB : B ≤ w.heap.size) :
    Calls Try.prog 51 #[.agg (s.list.map uv).toArray, .slice A 64 c] w fun e w' => e = .returned (.agg ((absorbS KS s b).list.map uv).toArray) ∧ Below w.heap.size w w' := by
  have hbl : b.length = 64 := by have := h.len; simpa using this
  obtain ⟨ad, rfl, had, hcell⟩ := h.at_ (by decide)
  have HC := Lib.hid hcell
  have HBL := Lib.hid hbl
  clear hcell h hbl
  go_enter Try.func51, Try.ntmps51
  go_wp2
  go_loopw [6] (fun i wr => ∃ k : Nat, k ≤ 16 ∧ i = .int .i64 k ∧ Cells wr (w.heap.size + 1 + 1) 76 (arr64 ((first16 b).take k)) ∧ Keep3 w wr s) (fun i _ => 16 - (intOf i).toNat)
  case atStart =>
    refine ⟨0, by omega, rfl, ?_, ?_, ?_, ?_⟩
    · rw [List.take_zero, arr64_nil]
      exact Cells.new' _ _ _ (by simp) rfl
    · refine Cells.alloc (cs := s.list.map uv) (Cells.alloc (cs := s.list.map uv) ?_ _) _
      exact Cells.new' _ _ _ rfl rfl
    · refine Cells.alloc (cs := List.replicate 8 (.int .u32 0)) ?_ _
      exact Cells.new' _ _ _ (by simp) rfl
    · exact (((Below.refl _ _).alloc (Nat.le_refl _) _).alloc (by simp) _).alloc (by simp; omega) _
  case round =>
    obtain ⟨k, hk, rfl, hW, hKK⟩ := hrel
    have HW := Lib.hid hW
    have HK := Lib.hid hKK
    clear hW hKK
    by_cases hlt : k < 16
    · have g : ∀ j, j < 4 → wr.cell? (ad.add (4 * k + j)) = some (.int .u8 (b.getD (4 * k + j) 0).toNat) := fun j hj => by
        rw [HK.out.2.2.cell (p := ad.add (4 * k + j)) (by rw [add_block]; omega)]
        refine HC.out _ _ ?_
        have hl := HBL.out
        rw [List.getElem?_map, List.getElem?_eq_getElem (by omega), List.getD, List.getElem?_eq_getElem (by omega)]
        rfl
      have g0 := g 0 (by omega)
      have g1 := g 1 (by omega)
      have g2 := g 2 (by omega)
      have g3 := g 3 (by omega)
      clear g
      rw [Nat.add_zero] at g0
      have e1 : ad.add (4 * k + 1) = ⟨ad.block, ad.off + (4 * k + 1), none⟩ := by unfold Addr.add; rw [if_neg (by omega)]
      have e2 : ad.add (4 * k + 2) = ⟨ad.block, ad.off + (4 * k + 1 + 1), none⟩ := by unfold Addr.add; rw [if_neg (by omega)]
      have e3 : ad.add (4 * k + 3) = ⟨ad.block, ad.off + (4 * k + 2 + 1), none⟩ := by unfold Addr.add; rw [if_neg (by omega)]
      rw [e1] at g1
      rw [e2] at g2
      rw [e3] at g3
      clear e1 e2 e3
      go_wp2
      have gs := HW.out.cell (i := k) (by rw [arr64_len]; omega; simp [first16_len]; omega)
      have gf := HW.out.frozen k
      have wa0 : IntKind.i64.wrap (4 * (k : Int)) = 4 * (k : Int) := IntWalk.i64_in _ (by omega)
      have wb0 : (0 : Int) ≤ 4 * (k : Int) := by omega
      have wc0 : 4 * (k : Int) < 64 := by omega
      have wd0 : (4 * (k : Int)).toNat = 4 * k := by omega
      have wa1 : IntKind.i64.wrap (4 * (k : Int) + 1) = 4 * (k : Int) + 1 := IntWalk.i64_in _ (by omega)
      have wb1 : (0 : Int) ≤ 4 * (k : Int) + 1 := by omega
      have wc1 : 4 * (k : Int) + 1 < 64 := by omega
      have wd1 : (4 * (k : Int) + 1).toNat = 4 * k + 1 := by omega
      have wa2 : IntKind.i64.wrap (4 * (k : Int) + 2) = 4 * (k : Int) + 2 := IntWalk.i64_in _ (by omega)
      have wb2 : (0 : Int) ≤ 4 * (k : Int) + 2 := by omega
      have wc2 : 4 * (k : Int) + 2 < 64 := by omega
      have wd2 : (4 * (k : Int) + 2).toNat = 4 * k + 2 := by omega
      have wa3 : IntKind.i64.wrap (4 * (k : Int) + 3) = 4 * (k : Int) + 3 := IntWalk.i64_in _ (by omega)
      have wb3 : (0 : Int) ≤ 4 * (k : Int) + 3 := by omega
      have wc3 : 4 * (k : Int) + 3 < 64 := by omega
      have wd3 : (4 * (k : Int) + 3).toNat = 4 * k + 3 := by omega
      have we : (0 : Int) ≤ (k : Int) := by omega
      have wf : (k : Int) < 64 := by omega
      go_region_held3 (fun w' => w'.cell? (ad.add (4 * k)) = some (.int .u8 (b.getD (4 * k) 0).toNat) ∧ w'.cell? ⟨ad.block, ad.off + (4 * k + 1), none⟩ = some (.int .u8 (b.getD (4 * k + 1) 0).toNat) ∧ w'.cell? ⟨ad.block, ad.off + (4 * k + 1 + 1), none⟩ = some (.int .u8 (b.getD (4 * k + 2) 0).toNat) ∧ w'.cell? ⟨ad.block, ad.off + (4 * k + 2 + 1), none⟩ = some (.int .u8 (b.getD (4 * k + 3) 0).toNat)) (first | exact ⟨g0, g1, g2, g3⟩ | exact ⟨cell_apart g0 (by rw [add_block]; simp; omega), cell_apart g1 (by simp; omega), cell_apart g2 (by simp; omega), cell_apart g3 (by simp; omega)⟩) (first | fail)
      clear wa0 wa1 wa2 wa3
      go_wp2
      rw [word_eq']
      have hlk : ((first16 b).take k).length = k := by rw [List.length_take, first16_len]; omega
      refine ⟨⟨k + 1, by omega, by go_num, ?_, (HK.out.store (by omega) _).drew⟩, by simp [intOf]; omega⟩
      have := (HW.out.store k (.int .u32 (wordAt b k).toNat)).drew
      refine this.cast ?_
      rw [first16_succ b k hlt, ← arr64_set _ (by rw [hlk]; omega), hlk]
    · have hW := HW.out
      rw [show (first16 b).take k = extN 0 (first16 b) from by rw [List.take_of_length_le (by rw [first16_len]; omega)]; rfl] at hW
      have HW2 := Lib.hid hW
      clear hW HW
      go_wp2
      obtain ⟨wo, hwo⟩ : ∃ x, x = wr := ⟨_, rfl⟩
      subst hwo
      go_loopw [7] (fun i wr => ∃ m : Nat, m ≤ 48 ∧ i = .int .i64 ((m : Int) + 16) ∧ Cells wr (w.heap.size + 1 + 1) 76 (arr64 (extN m (first16 b))) ∧ Keep3 w wr s) (fun i _ => 64 - (intOf i).toNat)
      case atStart => exact ⟨0, by omega, rfl, HW2.out, HK.out⟩
      case round =>
        obtain ⟨m, hm, rfl, hW, hKK⟩ := hrel
        have HW := Lib.hid hW
        have HKK := Lib.hid hKK
        clear hW hKK HK HW2
        have hWl : (extN m (first16 b)).length = m + 16 := by rw [extN_len, first16_len]; omega
        generalize hWd : extN m (first16 b) = W at *
        have HWD := Lib.hid hWd
        have HWL := Lib.hid hWl
        have gl : ∀ j, j < m + 16 → wr.cell? ⟨w.heap.size + 1 + 1, j, none⟩ = some (.int .u32 (W.getD j 0).toNat) := fun j hj => by
          rw [HW.out.cell (i := j) (by rw [arr64_len (by rw [hWl]; omega)]; omega), arr64_get (by rw [hWl]; exact hj)]
        clear hWd hWl
        by_cases hlt : m < 48
        · have l1 := gl (m + 1) (by omega)
          have l2 := gl (m + 14) (by omega)
          have l3 := gl m (by omega)
          have l4 := gl (m + 9) (by omega)
          clear gl
          have hext : extN (m + 1) (first16 b) = W ++ [add4 (W.getD m 0) (sg0 (W.getD (m + 1) 0)) (W.getD (m + 9) 0) (sg1 (W.getD (m + 14) 0))] := by
            show ext (extN m (first16 b)) = _
            rw [HWD.out]
            unfold ext
            rw [HWL.out, show m + 16 - 16 = m from by omega, show m + 16 - 15 = m + 1 from by omega, show m + 16 - 7 = m + 9 from by omega, show m + 16 - 2 = m + 14 from by omega]
          generalize W.getD (m + 1) 0 = x1 at *
          generalize W.getD (m + 14) 0 = x2 at *
          generalize W.getD m 0 = x3 at *
          generalize W.getD (m + 9) 0 = x4 at *
          have HEXT := Lib.hid hext
          clear hext
          have wa1 : IntKind.i64.wrap ((m : Int) + 16 - 15) = (m : Int) + 1 := by rw [IntWalk.i64_in _ (by omega)]; omega
          have wa2 : IntKind.i64.wrap ((m : Int) + 16 - 2) = (m : Int) + 14 := by rw [IntWalk.i64_in _ (by omega)]; omega
          have wb1 : (0 : Int) ≤ (m : Int) + 1 := by omega
          have wb2 : (0 : Int) ≤ (m : Int) + 14 := by omega
          have wc1 : (m : Int) + 1 < 64 := by omega
          have wc2 : (m : Int) + 14 < 64 := by omega
          have wd1 : ((m : Int) + 1).toNat = m + 1 := by omega
          have wd2 : ((m : Int) + 14).toNat = m + 14 := by omega
          have hq0 := sg0_eq x1
          have hq1 := sg1_eq x2
          go_wp2
          go_quiet ((first | (go_at_call_of 58 (Value.int IntKind.i64 7); exact rotate_q _ 7 7 rfl (by decide) (by decide) _ _) | (go_at_call_of 58 (Value.int IntKind.i64 18); exact rotate_q _ 18 18 rfl (by decide) (by decide) _ _)))
          obtain ⟨na, hna⟩ : ∃ x, x = nq := ⟨_, rfl⟩
          subst hna
          go_wp2
          go_quiet ((first | (go_at_call_of 58 (Value.int IntKind.i64 17); exact rotate_qa _ 17 17 rfl (by decide) (by decide) _ _ _) | (go_at_call_of 58 (Value.int IntKind.i64 19); exact rotate_qa _ 19 19 rfl (by decide) (by decide) _ _ _)))
          clear wa1 wa2
          rw [World.drewN_drewN]
          generalize na + nq = nz
          go_wp2
          have gs := HW.out.cellD (i := m + 16) (d := undef) (by rw [arr64_len (by rw [HWL.out]; omega)]; omega)
          have gf := HW.out.frozen (m + 16)
          have hq2 := sum3 x3 (sg0 x1) x4
          have wa3 : IntKind.i64.wrap ((m : Int) + 16 - 16) = (m : Int) := by rw [IntWalk.i64_in _ (by omega)]; omega
          have wa4 : IntKind.i64.wrap ((m : Int) + 16 - 7) = (m : Int) + 9 := by rw [IntWalk.i64_in _ (by omega)]; omega
          have wa6 : IntKind.i64.wrap (m : Int) = (m : Int) := IntWalk.i64_in _ (by omega)
          have wb3 : (0 : Int) ≤ (m : Int) := by omega
          have wb4 : (0 : Int) ≤ (m : Int) + 9 := by omega
          have wb5 : (0 : Int) ≤ (m : Int) + 16 := by omega
          have wc3 : (m : Int) < 64 := by omega
          have wc4 : (m : Int) + 9 < 64 := by omega
          have wc5 : (m : Int) + 16 < 64 := by omega
          have wd4 : ((m : Int) + 9).toNat = m + 9 := by omega
          have wd5 : ((m : Int) + 16).toNat = m + 16 := by omega
          go_region_held3 (fun w' => w'.cell? ⟨w.heap.size + 1 + 1, m, none⟩ = some (.int .u32 x3.toNat) ∧ w'.cell? ⟨w.heap.size + 1 + 1, m + 9, none⟩ = some (.int .u32 x4.toNat)) (first | exact ⟨l3, l4⟩ | exact ⟨cell_off l3 (by omega), cell_off l4 (by omega)⟩) (first | fail)
          clear wa3 wa4 wa6 hq2 hq0 hq1
          rw [w_add4]
          go_wp2
          refine ⟨⟨m + 1, by omega, by go_num, ?_, (HKK.out.drewN (nz + 1)).store (by omega) _⟩, by simp [intOf]; omega⟩
          have := ((HW.out.drewN (nz + 1)).store (m + 16) (.int .u32 (add4 x3 (sg0 x1) x4 (sg1 x2)).toNat))
          refine this.cast ?_
          rw [HEXT.out, ← arr64_set _ (by rw [HWL.out]; omega), HWL.out]
        · have hm48 : 48 ≤ m := by omega
          have HS48 : Hid (W = sched b) := Lib.hid (by rw [← HWD.out, show m = 48 from by omega]; rfl)
          have HAR : Hid (Cells wr (w.heap.size + 1 + 1) 76 ((sched b).map uv)) := Lib.hid (by have h1 := HW.out; unfold arr64 at h1; rw [show 64 - W.length = 0 from by rw [HWL.out]; omega, HS48.out, List.replicate_zero, List.append_nil] at h1; exact h1)
          clear HS48 gl HW HWD HWL
          have hsw := HAR.out.lt
          have hinf : (Try.prog.info? 76).map (·.size) = some (KS.map uv).length := by rw [List.length_map, KS_len]; kernel_rfl
          have hin8 : (Try.prog.info? 75).map (·.size) = some (s.list.map uv).length := by kernel_rfl
          have HINF := Lib.hid hinf
          have HIN8 := Lib.hid hin8
          clear hinf hin8
          go_wp2_with fail
          refine (constants_any _).mono ?_
          rintro e w5 ⟨rfl, hb5⟩
          have hk5 := Lib.hid (HKK.out.below hb5 (by omega))
          have har5 := Lib.hid (HAR.out.below hb5 hsw)
          have hs5 := hb5.size
          clear hb5 HKK HAR
          go_wp2_with (first | (refine wl_store_all rfl 76 _ _ rfl w5.heap.size _ _ (KS.map uv) rfl rfl (Cells.new _ _ _) (by rw [List.length_map, KS_len]; rfl) HINF.out (uv_one _) ?_; intro w6 hc6 hg6 hs6; have hk6 : Hid (Keep3 w w6 s) := Lib.hid ((hk5.out.alloc _).grown hg6 (by omega))) | (refine wpList_load_mid rfl 75 _ rfl w.heap.size 0 rfl (s.list.map uv) _ hk6.out.1.range Try.underlying75 rfl (by kernel_rfl) ?_) | (refine wl_store_all rfl 75 _ _ rfl (w5.heap.size + 1) _ _ (s.list.map uv) rfl rfl (Cells.new' _ _ _ (by simp [hs6]) rfl) rfl HIN8.out (uv_one _) ?_; intro w7 hc7 hg7 hs7))
          have hs7' : w5.heap.size + 1 < w7.heap.size := hc7.lt
          have hw6 : w6.heap.size = w5.heap.size + 1 := by simp [hs6]
          have L1 := Lib.hid hc7
          have L2 : Hid (Cells w7 w5.heap.size 76 (KS.map uv)) := Lib.hid ((hc6.alloc _).grown hg7 (by simp))
          have L3 : Hid (Cells w7 (w.heap.size + 1 + 1) 76 ((sched b).map uv)) := Lib.hid ((((har5.out.alloc _).grown hg6 (by simp; omega)).alloc _).grown hg7 (by simp; omega))
          have L4 : Hid (Keep3 w w7 s) := Lib.hid ((hk6.out.alloc _).grown hg7 (by omega))
          clear hc6 hg6 hs6 hk6 hc7 hg7 hs7 hk5 har5
          go_loopw [12] (fun i wr => ∃ (n : Nat) (t : S8), n ≤ 64 ∧ i = .int .i64 n ∧ Hid (t = roundN KS (sched b) s n) ∧ Cells wr (w5.heap.size + 1) 75 (t.list.map uv) ∧ Cells wr w5.heap.size 76 (KS.map uv) ∧ Cells wr (w.heap.size + 1 + 1) 76 ((sched b).map uv) ∧ Keep3 w wr s) (fun i _ => 64 - (intOf i).toNat)
          case atStart => exact ⟨0, s, by omega, rfl, Lib.hid rfl, L1.out, L2.out, L3.out, L4.out⟩
          case round =>
            obtain ⟨n, t, hn, rfl, HT, h1, h2, h3, h4⟩ := hrel
            have M1 := Lib.hid h1
            have M2 := Lib.hid h2
            have M3 := Lib.hid h3
            have M4 := Lib.hid h4
            have q0 : wr.cell? ⟨w5.heap.size + 1, 0, none⟩ = some (.int .u32 t.a.toNat) := h1.cell (i := 0) (Nat.lt_of_sub_eq_succ rfl)
            have q1 : wr.cell? ⟨w5.heap.size + 1, 1, none⟩ = some (.int .u32 t.b.toNat) := h1.cell (i := 1) (Nat.lt_of_sub_eq_succ rfl)
            have q2 : wr.cell? ⟨w5.heap.size + 1, 2, none⟩ = some (.int .u32 t.c.toNat) := h1.cell (i := 2) (Nat.lt_of_sub_eq_succ rfl)
            have q3 : wr.cell? ⟨w5.heap.size + 1, 3, none⟩ = some (.int .u32 t.d.toNat) := h1.cell (i := 3) (Nat.lt_of_sub_eq_succ rfl)
            have q4 : wr.cell? ⟨w5.heap.size + 1, 4, none⟩ = some (.int .u32 t.e.toNat) := h1.cell (i := 4) (Nat.lt_of_sub_eq_succ rfl)
            have q5 : wr.cell? ⟨w5.heap.size + 1, 5, none⟩ = some (.int .u32 t.f.toNat) := h1.cell (i := 5) (Nat.lt_of_sub_eq_succ rfl)
            have q6 : wr.cell? ⟨w5.heap.size + 1, 6, none⟩ = some (.int .u32 t.g.toNat) := h1.cell (i := 6) (Nat.lt_of_sub_eq_succ rfl)
            have q7 : wr.cell? ⟨w5.heap.size + 1, 7, none⟩ = some (.int .u32 t.h.toNat) := h1.cell (i := 7) (Nat.lt_of_sub_eq_succ rfl)
            clear h1 h2 h3 h4 L1 L2 L3 L4
            by_cases hlt : n < 64
            · have lk : wr.cell? ⟨w5.heap.size, n, none⟩ = some (.int .u32 (KS.getD n 0).toNat) := by
                rw [M2.out.cell (i := n) (by rw [List.length_map, KS_len]; exact hlt)]
                simp [uv, List.getD, KS_len, hlt]
              have lw : wr.cell? ⟨w.heap.size + 1 + 1, n, none⟩ = some (.int .u32 ((sched b).getD n 0).toNat) := by
                rw [M3.out.cell (i := n) (by rw [List.length_map, sched_len]; exact hlt)]
                simp [uv, List.getD, sched_len, hlt]
              have hstep : roundN KS (sched b) s (n + 1) = round1 t (KS.getD n 0) ((sched b).getD n 0) := by rw [HT.out]; rfl
              have HSTEP := Lib.hid hstep
              clear hstep
              generalize KS.getD n 0 = xk at *
              generalize (sched b).getD n 0 = xw at *
              have hb1 : (0 : Int) ≤ (n : Int) := by omega
              have hb2 : (n : Int) < 64 := by omega
              have hmx := u32_ones
              have r1 := w_bs1 t.e
              have r3 := w_maj t.a t.b t.c
              have r4 := w_bs0 t.a
              go_wp2
              go_quiet ((first | (go_at_call_of 58 (Value.int IntKind.i64 6); exact rotate_q _ 6 6 rfl (by decide) (by decide) _ _) | (go_at_call_of 58 (Value.int IntKind.i64 11); exact rotate_q _ 11 11 rfl (by decide) (by decide) _ _) | (go_at_call_of 58 (Value.int IntKind.i64 25); exact rotate_q _ 25 25 rfl (by decide) (by decide) _ _)))
              go_wp2
              obtain ⟨na, hna⟩ : ∃ x, x = nq := ⟨_, rfl⟩
              subst hna
              go_quiet (fail)
              rw [World.drewN_drewN]
              generalize na + nq = nb
              rw [ref_x t.h xk xw t.e t.f t.g]
              have r5 := ref_y t.a t.b t.c
              have r6 := m_addw t.d (t1 t.h xk xw t.e t.f t.g)
              have r7 := m_addw (t1 t.h xk xw t.e t.f t.g) (t2 t.a t.b t.c)
              go_wp2
              go_quiet ((first | (go_at_call_of 58 (Value.int IntKind.i64 2); exact rotate_qa _ 2 2 rfl (by decide) (by decide) _ _ _) | (go_at_call_of 58 (Value.int IntKind.i64 13); exact rotate_qa _ 13 13 rfl (by decide) (by decide) _ _ _) | (go_at_call_of 58 (Value.int IntKind.i64 22); exact rotate_qa _ 22 22 rfl (by decide) (by decide) _ _ _)))
              rw [World.drewN_drewN]
              generalize nb + nq = nz
              clear hmx
              go_wp2_with (refine wl_store_all rfl 75 _ _ rfl (w5.heap.size + 1) _ _ ((round1 t xk xw).list.map uv) rfl rfl (M1.out.drewN nz) rfl HIN8.out (uv_one _) ?_; intro w8 hc8 hg8 hs8)
              exact ⟨⟨n + 1, round1 t xk xw, by omega, by go_num, Lib.hid HSTEP.out.symm, hc8, (M2.out.drewN nz).grown hg8 (by simp), (M3.out.drewN nz).grown hg8 (by simp; omega), (M4.out.drewN nz).grown hg8 (by have := M3.out.lt; omega)⟩, by simp [intOf]; omega⟩
            · have HT64 : Hid (absorbS KS s b = addS s t) := Lib.hid (absorbS_of HT.out (by omega))
              clear HT hn q0 q1 q2 q3 q4 q5 q6 q7
              go_wp2
              obtain ⟨wq, hwq⟩ : ∃ x, x = wr := ⟨_, rfl⟩
              subst hwq
              have hsq := M1.out.lt
              go_loopw [17] (fun i wr => ∃ j : Nat, j ≤ 8 ∧ i = .int .i64 j ∧ Cells wr w.heap.size 75 ((mixS s t j).map uv) ∧ Cells wr (w5.heap.size + 1) 75 (t.list.map uv) ∧ Cells wr (w.heap.size + 1) 75 (List.replicate 8 (.int .u32 0)) ∧ Below w.heap.size w wr) (fun i _ => 8 - (intOf i).toNat)
              case atStart => exact ⟨0, by omega, rfl, M4.out.1, M1.out, M4.out.2.1, M4.out.2.2⟩
              case round =>
                obtain ⟨j, hj, rfl, hC, hC2, hC3, hG⟩ := hrel
                have HCC := Lib.hid hC
                have HC2 := Lib.hid hC2
                have HC3 := Lib.hid hC3
                have HG := Lib.hid hG
                clear hC hC2 hC3 hG
                by_cases hj8 : j < 8
                · have l1 : wr.cell? ⟨w.heap.size, j, none⟩ = some (.int .u32 (s.list.getD j 0).toNat) := by
                    rw [HCC.out.cell (i := j) (by rw [List.length_map, mixS_len _ _ _ hj]; exact hj8), ← mixS_get s t j hj8]
                    simp [uv, List.getD, mixS_len _ _ _ hj, hj8]
                  have l2 : wr.cell? ⟨w5.heap.size + 1, j, none⟩ = some (.int .u32 (t.list.getD j 0).toNat) := by
                    rw [HC2.out.cell (i := j) (by rw [List.length_map, S8.list_len]; exact hj8)]
                    simp only [uv, List.getD, List.getElem_map]
                    rw [List.getElem?_eq_getElem (by rw [S8.list_len]; exact hj8)]
                    rfl
                  have lf := HCC.out.frozen j
                  have HSET := Lib.hid (mixS_set s t j hj8)
                  generalize s.list.getD j 0 = x at *
                  generalize t.list.getD j 0 = y at *
                  have wb1 : (0 : Int) ≤ (j : Int) := by omega
                  have wb2 : (j : Int) < 8 := by omega
                  go_wp2
                  go_region
                  all_goals
                    rw [m_addw]
                    go_wp2
                    refine ⟨⟨j + 1, by omega, by go_num, ((HCC.out.store j (.int .u32 (addw x y).toNat)).drew).cast HSET.out, (HC2.out.far (by simp; omega) _).drew, (HC3.out.far (by simp) _).drew, (HG.out.setCell (Nat.le_refl _) _).drew⟩, by simp [intOf]; omega⟩
                · have hd : decide ((j : Int) < 8) = false := by simp; omega
                  have hj88 : j = 8 := by omega
                  have hfin := HCC.out
                  rw [hj88, mixS_all, ← HT64.out] at hfin
                  have HF := Lib.hid hfin
                  have hin9 : (Try.prog.info? 75).map (·.size) = some ((absorbS KS s b).list.map uv).length := by kernel_rfl
                  have HIN9 := Lib.hid hin9
                  clear hfin hj88 hj8 hj hin9 HT64
                  obtain ⟨S9, hS9⟩ : ∃ x, x = absorbS KS s b := ⟨_, rfl⟩
                  rw [← hS9] at HF HIN9
                  have HS9 := Lib.hid hS9
                  clear hS9
                  go_wp2_with (first | (refine wpList_load_mid rfl 75 _ rfl w.heap.size 0 rfl (S9.list.map uv) _ HF.out.range Try.underlying75 rfl (by kernel_rfl) ?_) | (refine wl_store_all rfl 75 _ _ rfl (w.heap.size + 1) _ _ (S9.list.map uv) rfl rfl HC3.out rfl HIN9.out (uv_one _) ?_; intro w9 hc9 hg9 hs9))
                  refine bodyPost_ret (v := .agg (S9.list.map uv).toArray) ?_ rfl ⟨by rw [HS9.out], HG.out.grown hg9 (by have := HC3.out.lt; omega) (fun k hk => by injection hk with hk; omega)⟩
                  exact results_cell_row rfl _ _ (w.heap.size + 1) 75 (S9.list.map uv).toArray (0, 0) _ rfl hc9 Try.underlying75 rfl (by rw [List.size_toArray]; exact HIN9.out)
end Go.Proofs.Ytlnbeglelhdjfaa

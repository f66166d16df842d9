/- SHA-256: digest.absorb. -/
import Derived.Test.YtlnbeglelhdjfaaSha2
import Derived.Test.YtlnbeglelhdjfaaGen3
import Derived.Deep.QuietTactic
import Derived.BigQuiet
import Derived.Deep.RegionHeld3
import Derived.IntWalk
set_option linter.unusedSimpArgs false
set_option linter.unusedVariables false
namespace Go.Proofs.Ytlnbeglelhdjfaa
open Go Go.RowKit Go.Adm

theorem idx8 (t : S8) (k : Nat) (hk : k < 8) (W : World) : (Instr.index 75 (.agg #[.int .u32 t.a.toNat, .int .u32 t.b.toNat, .int .u32 t.c.toNat, .int .u32 t.d.toNat, .int .u32 t.e.toNat, .int .u32 t.f.toNat, .int .u32 t.g.toNat, .int .u32 t.h.toNat]) (.int .i64 (k : Int))).run Try.prog W = .ok (.int .u32 (t.list.getD k 0).toNat) W := by
  obtain rfl | rfl | rfl | rfl | rfl | rfl | rfl | rfl : k = 0 ∨ k = 1 ∨ k = 2 ∨ k = 3 ∨ k = 4 ∨ k = 5 ∨ k = 6 ∨ k = 7 := by omega
  all_goals kernel_rfl

set_option maxRecDepth 100000 in
set_option maxHeartbeats 1600000 in
theorem absorb_any (w : World) (B gs gk : Nat) (A : Option Addr) (c : Nat) (b : List UInt8) (s : S8) (K : List UInt32) (ts tk : TypeId) (hs : Cells w gs ts (s.list.map uv)) (hk : Cells w gk tk (K.map uv)) (hK : K.length = 64) (hne : gs ≠ gk)
    (h : Rd w B 1 A 64 (b.map bv)) (hB : B ≤ w.heap.size) :
    Calls Try.prog 50 #[.pointer (some ⟨gs, 0, none⟩), .pointer (some ⟨gk, 0, none⟩), .slice A 64 c] w fun e w' => e = .returned (.tuple #[]) ∧ Cells w' gs ts ((absorbS K s b).list.map uv) ∧ w.grownBy w' (some gs) := by
  have HS := Lib.hid hs
  have HK := Lib.hid hk
  have hgs := hs.lt
  have hgk := hk.lt
  have HKL := Lib.hid hK
  have q0 : w.cell? ⟨gs, 0, none⟩ = some (.int .u32 s.a.toNat) := hs.cell (i := 0) (Nat.lt_of_sub_eq_succ rfl)
  have q1 : w.cell? ⟨gs, 1, none⟩ = some (.int .u32 s.b.toNat) := hs.cell (i := 1) (Nat.lt_of_sub_eq_succ rfl)
  have q2 : w.cell? ⟨gs, 2, none⟩ = some (.int .u32 s.c.toNat) := hs.cell (i := 2) (Nat.lt_of_sub_eq_succ rfl)
  have q3 : w.cell? ⟨gs, 3, none⟩ = some (.int .u32 s.d.toNat) := hs.cell (i := 3) (Nat.lt_of_sub_eq_succ rfl)
  have q4 : w.cell? ⟨gs, 4, none⟩ = some (.int .u32 s.e.toNat) := hs.cell (i := 4) (Nat.lt_of_sub_eq_succ rfl)
  have q5 : w.cell? ⟨gs, 5, none⟩ = some (.int .u32 s.f.toNat) := hs.cell (i := 5) (Nat.lt_of_sub_eq_succ rfl)
  have q6 : w.cell? ⟨gs, 6, none⟩ = some (.int .u32 s.g.toNat) := hs.cell (i := 6) (Nat.lt_of_sub_eq_succ rfl)
  have q7 : w.cell? ⟨gs, 7, none⟩ = some (.int .u32 s.h.toNat) := hs.cell (i := 7) (Nat.lt_of_sub_eq_succ rfl)
  clear hs hk hK
  go_enter Try.func50, Try.ntmps50
  go_wp2_with fail
  refine (schedule_any w B A c b h hB).mono ?_
  rintro e w1 ⟨rfl, hb1⟩
  have hsl : ((sched b).map uv).length = 64 := by simp [sched_len]
  have hinf : (Try.prog.info? 76).map (·.size) = some ((sched b).map uv).length := by rw [hsl]; kernel_rfl
  have HSL := Lib.hid hsl
  have HINF := Lib.hid hinf
  clear hsl hinf
  have HC1 := Lib.hid (HS.out.below hb1 hgs)
  have HC2 := Lib.hid (HK.out.below hb1 hgk)
  have hsz1 := hb1.size
  have hg1 : w.grownBy w1 (some gs) := ⟨hb1.os, hb1.tape, hb1.output, hb1.size, fun k hk _ => hb1.block k hk⟩
  have HG1 := Lib.hid hg1
  clear q0 q1 q2 q3 q4 q5 q6 q7 hb1 hg1
  go_wp2_with (refine wl_store_all rfl 76 _ _ rfl w1.heap.size _ _ ((sched b).map uv) rfl rfl (Cells.new _ _ _) HSL.out HINF.out (uv_one _) ?_; intro w2 hc2 hg2 hs2)
  have hb2 : Below w1.heap.size w1 w2 := ((Below.refl _ _).alloc (Nat.le_refl _) _).grown hg2 (by simp) (fun k hk => by injection hk with hk; omega)
  have hs3 : w2.heap.size = w1.heap.size + 1 := by simpa using hs2
  clear hg2 hs2
  have D1 := HC1.out.below hb2 (by omega)
  have D2 := HC2.out.below hb2 (by omega)
  have hg3 : w.grownBy w2 (some gs) := by
    have h1 := HG1.out
    exact ⟨hb2.os.trans h1.os, hb2.tape.trans h1.tape, hb2.output.trans h1.output, Nat.le_trans h1.size hb2.size, fun k hk hn => (hb2.block k (by omega)).trans (h1.block k hk hn)⟩
  have HG3 := Lib.hid hg3
  have q0 : w2.cell? ⟨gs, 0, none⟩ = some (.int .u32 s.a.toNat) := D1.cell (i := 0) (Nat.lt_of_sub_eq_succ rfl)
  have q1 : w2.cell? ⟨gs, 1, none⟩ = some (.int .u32 s.b.toNat) := D1.cell (i := 1) (Nat.lt_of_sub_eq_succ rfl)
  have q2 : w2.cell? ⟨gs, 2, none⟩ = some (.int .u32 s.c.toNat) := D1.cell (i := 2) (Nat.lt_of_sub_eq_succ rfl)
  have q3 : w2.cell? ⟨gs, 3, none⟩ = some (.int .u32 s.d.toNat) := D1.cell (i := 3) (Nat.lt_of_sub_eq_succ rfl)
  have q4 : w2.cell? ⟨gs, 4, none⟩ = some (.int .u32 s.e.toNat) := D1.cell (i := 4) (Nat.lt_of_sub_eq_succ rfl)
  have q5 : w2.cell? ⟨gs, 5, none⟩ = some (.int .u32 s.f.toNat) := D1.cell (i := 5) (Nat.lt_of_sub_eq_succ rfl)
  have q6 : w2.cell? ⟨gs, 6, none⟩ = some (.int .u32 s.g.toNat) := D1.cell (i := 6) (Nat.lt_of_sub_eq_succ rfl)
  have q7 : w2.cell? ⟨gs, 7, none⟩ = some (.int .u32 s.h.toNat) := D1.cell (i := 7) (Nat.lt_of_sub_eq_succ rfl)
  have HD1 := Lib.hid D1
  have HD2 := Lib.hid D2
  have HD3 := Lib.hid hc2
  have HS3 := Lib.hid hs3
  clear D1 D2 hc2 hs3 hb2 hg3 HC1 HC2 HG1
  go_wp2
  go_quiet (fail)
  go_wp2
  go_quiet (fail)
  go_wp2
  clear q0 q1 q2 q3 q4 q5 q6 q7
  go_loopw [7, 8, 9, 10, 11, 12, 13, 14, 54] (fun va vb vc vd ve vf vg vh i wr => ∃ (n q : Nat) (t : S8), n ≤ 64 ∧ i = .int .i64 n ∧ Hid (t = roundN K (sched b) s n) ∧ va = .int .u32 t.a.toNat ∧ vb = .int .u32 t.b.toNat ∧ vc = .int .u32 t.c.toNat ∧ vd = .int .u32 t.d.toNat ∧ ve = .int .u32 t.e.toNat ∧ vf = .int .u32 t.f.toNat ∧ vg = .int .u32 t.g.toNat ∧ vh = .int .u32 t.h.toNat ∧ wr = w2.drewN q) (fun _ _ _ _ _ _ _ _ i _ => 64 - (intOf i).toNat)
  case atStart => exact ⟨0, _, s, by omega, rfl, Lib.hid rfl, rfl, rfl, rfl, rfl, rfl, rfl, rfl, rfl, by rw [World.drewN_drewN]⟩
  case round =>
    obtain ⟨n, q, t, hn, rfl, ht, rfl, rfl, rfl, rfl, rfl, rfl, rfl, rfl, rfl⟩ := hrel
    have HT : Hid (t = roundN K (sched b) s n) := ht
    clear ht
    by_cases hlt : n < 64
    · have lk : (w2.drewN q).cell? ⟨gk, n, none⟩ = some (.int .u32 (K.getD n 0).toNat) := by
        rw [World.cell?_drewN, HD2.out.cell (i := n) (by rw [List.length_map, HKL.out]; exact hlt)]
        simp [uv, List.getD, HKL.out, hlt]
      have lw : (w2.drewN q).cell? ⟨w1.heap.size, n, none⟩ = some (.int .u32 ((sched b).getD n 0).toNat) := by
        rw [World.cell?_drewN, HD3.out.cell (i := n) (by rw [List.length_map, sched_len]; exact hlt)]
        simp [uv, List.getD, sched_len, hlt]
      have hstep : roundN K (sched b) s (n + 1) = round1 t (K.getD n 0) ((sched b).getD n 0) := by rw [HT.out]; rfl
      have HSTEP := Lib.hid hstep
      clear hstep
      generalize K.getD n 0 = xk at *
      generalize (sched b).getD n 0 = xw at *
      rw [World.cell?_drewN] at lk lw
      have hb1 : (0 : Int) ≤ (n : Int) := by omega
      have hb2 : (n : Int) < 64 := by omega
      have hmx := u32_ones
      go_wp2
      go_quiet (fail)
      clear hmx
      rw [w_t1a' t.h xk xw t.e t.f t.g]
      have r1 := w_bs1 t.e
      have r2 := m_t1 t.h xk xw t.e t.f t.g
      have r3 := w_maj t.a t.b t.c
      have r4 := w_bs0 t.a
      have r5 := m_t2 t.a t.b t.c
      have r6 := m_addw t.d (t1 t.h xk xw t.e t.f t.g)
      have r7 := m_addw (t1 t.h xk xw t.e t.f t.g) (t2 t.a t.b t.c)
      go_wp2_with fail
      refine (rot_lit t.e (-6) 6 rfl (by decide) (by decide) _).mono ?_
      rintro e w' ⟨rfl, rfl⟩
      go_wp2_with fail
      refine (rot_lit t.e (-11) 11 rfl (by decide) (by decide) _).mono ?_
      rintro e w' ⟨rfl, rfl⟩
      go_wp2_with fail
      refine (rot_lit t.e (-25) 25 rfl (by decide) (by decide) _).mono ?_
      rintro e w' ⟨rfl, rfl⟩
      go_wp2_with fail
      refine (rot_lit t.a (-2) 2 rfl (by decide) (by decide) _).mono ?_
      rintro e w' ⟨rfl, rfl⟩
      go_wp2_with fail
      refine (rot_lit t.a (-13) 13 rfl (by decide) (by decide) _).mono ?_
      rintro e w' ⟨rfl, rfl⟩
      go_wp2_with fail
      refine (rot_lit t.a (-22) 22 rfl (by decide) (by decide) _).mono ?_
      rintro e w' ⟨rfl, rfl⟩
      go_wp2
      refine ⟨⟨n + 1, _, round1 t xk xw, by omega, by go_num, Lib.hid HSTEP.out.symm, rfl, rfl, rfl, rfl, rfl, rfl, rfl, rfl, rfl⟩, by simp [intOf]; omega⟩
    · have hn64 : n = 64 := by omega
      have HT64 : Hid (absorbS K s b = addS s t) := Lib.hid (absorbS_of HT.out hn64)
      have hd : decide ((n : Int) < 64) = false := by simp; omega
      clear hn64 hlt hn
      go_wp2
      have HB := HG3.out
      have h0 : Cells (w2.drewN q) gs ts ((mixS s t 0).map uv) := HD1.out.drewN q
      have h1 : w.grownBy (w2.drewN q) (some gs) := ⟨HB.os, HB.tape, HB.output, HB.size, HB.block⟩
      generalize w2.drewN q = w3 at *
      have H0 := Lib.hid h0
      have H1 := Lib.hid h1
      clear h0 h1
      have hidx := fun (k : Nat) (W : World) (hk : k < 8) => idx8 t k hk W
      have HIDX := Lib.hid hidx
      clear hidx
      go_loopw [130] (fun i wr => ∃ k : Nat, k ≤ 8 ∧ i = .int .i64 k ∧ Cells wr gs ts ((mixS s t k).map uv) ∧ w.grownBy wr (some gs)) (fun i _ => 8 - (intOf i).toNat)
      case atStart => exact ⟨0, by omega, rfl, H0.out, H1.out⟩
      case round =>
        obtain ⟨k, hk, rfl, hC, hG⟩ := hrel
        have HC := Lib.hid hC
        have HG := Lib.hid hG
        clear hC hG
        by_cases hk8 : k < 8
        · have hix := fun W => HIDX.out k W hk8
          have l1 : wr.cell? ⟨gs, k, none⟩ = some (.int .u32 (s.list.getD k 0).toNat) := by
            rw [HC.out.cell (i := k) (by rw [List.length_map, mixS_len _ _ _ hk]; exact hk8), ← mixS_get s t k hk8]
            simp [uv, List.getD, mixS_len _ _ _ hk, hk8]
          have lf := HC.out.frozen k
          have HSET := Lib.hid (mixS_set s t k hk8)
          generalize s.list.getD k 0 = x at *
          generalize t.list.getD k 0 = y at *
          have wb1 : (0 : Int) ≤ (k : Int) := by omega
          have wb2 : (k : Int) < 8 := by omega
          go_wp2
          clear hix
          go_region
          all_goals
            rw [m_addw]
            go_wp2
            refine ⟨⟨k + 1, by omega, by go_num, ((HC.out.store k (.int .u32 (addw x y).toNat)).drew).cast HSET.out, HG.out.trans ⟨rfl, rfl, rfl, Nat.le_of_eq (size_setCell wr ⟨gs, k, none⟩ _).symm, fun j hj hn => Below.heap_setCell wr ⟨gs, k, none⟩ _ j (fun e => hn (by rw [e]))⟩⟩, by simp [intOf]; omega⟩
        · have hd : decide ((k : Int) < 8) = false := by simp; omega
          have hk88 : k = 8 := by omega
          have hfin := HC.out
          rw [hk88, mixS_all, ← HT64.out] at hfin
          have HF := Lib.hid hfin
          clear hfin hk88 hk8 hk
          go_wp2
          go_end0
          exact ⟨rfl, HF.out, HG.out⟩
end Go.Proofs.Ytlnbeglelhdjfaa

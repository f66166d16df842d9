/- The reference's Closure. -/
import Derived.Test.YtkcmaembpfakdaaGreatDoorCloB
import Derived.Test.YtkcmaembpfakdaaGreatDoorLkR
import Derived.Test.YtkcmaembpfakdaaGreatDoorSto16
set_option linter.unusedSimpArgs false
set_option linter.unusedVariables false
set_option maxRecDepth 100000
namespace Go.Adm
open Go Go.RowKit
def addR (out : List (List UInt8)) (d : List UInt8) : List (List UInt8) := if d = z32 ∨ d ∈ out then out else out ++ [d]
def rootsL (roots : List (List UInt8)) : List (List UInt8) := roots.foldl addR []
theorem rootsL_step {roots : List (List UInt8)} {k : Nat} (hk : k < roots.length) {o : List (List UInt8)} (ho : o = rootsL (roots.take k)) : rootsL (roots.take (k + 1)) = addR o roots[k] := by
  show ((roots.take (k + 1)).foldl addR []) = _
  rw [List.take_succ_eq_append_getElem hk, List.foldl_append, ho]
  rfl
theorem rootsL_ok : ∀ roots : List (List UInt8), (rootsL roots).Nodup ∧ (∀ d ∈ rootsL roots, d ∈ roots ∧ d ≠ z32) ∧ (∀ d ∈ roots, d = z32 ∨ d ∈ rootsL roots) ∧ (rootsL roots).length ≤ roots.length := fun roots => by
  have h : ∀ k, k ≤ roots.length → (rootsL (roots.take k)).Nodup ∧ (∀ d ∈ rootsL (roots.take k), d ∈ roots.take k ∧ d ≠ z32) ∧ (∀ d ∈ roots.take k, d = z32 ∨ d ∈ rootsL (roots.take k)) ∧ (rootsL (roots.take k)).length ≤ k := fun k => by
    induction k with
    | zero => intro _; simp [rootsL]
    | succ k ih =>
      intro hk
      obtain ⟨h1, h2, h3, h4⟩ := ih (by omega)
      have hs := rootsL_step (roots := roots) (k := k) (by omega) rfl
      rw [hs]
      unfold addR
      by_cases hc : roots[k] = z32 ∨ roots[k] ∈ rootsL (roots.take k)
      · rw [if_pos hc]
        refine ⟨h1, fun d hd => ⟨(take_snoc (by omega) d).2 (.inl (h2 d hd).1), (h2 d hd).2⟩, fun d hd => ?_, by omega⟩
        rcases (take_snoc (by omega) d).1 hd with h5 | h5
        · exact h3 d h5
        · rw [h5]; exact hc
      · rw [if_neg hc]
        refine ⟨List.nodup_append.2 ⟨h1, by simp, fun a ha b hb e => ?_⟩, fun d hd => ?_, fun d hd => ?_, by rw [List.length_append, List.length_singleton]; omega⟩
        · rw [List.mem_singleton] at hb
          subst hb; subst e
          exact hc (.inr ha)
        · rcases List.mem_append.1 hd with h5 | h5
          · exact ⟨(take_snoc (by omega) d).2 (.inl (h2 d h5).1), (h2 d h5).2⟩
          · rw [List.mem_singleton] at h5
            exact ⟨(take_snoc (by omega) d).2 (.inr h5), fun e => hc (.inl (h5 ▸ e))⟩
        · rcases (take_snoc (by omega) d).1 hd with h5 | h5
          · exact (h3 d h5).imp_right (fun h => List.mem_append.2 (.inl h))
          · exact .inr (List.mem_append.2 (.inr (by rw [h5]; simp)))
  have := h roots.length (Nat.le_refl _)
  rwa [List.take_length] at this
theorem RefI.start {G : List UInt8 → Option (List (List UInt8))} (roots : List (List UInt8)) : RefI z32 G roots (rootsL roots) 0 [] [] := by
  obtain ⟨h1, h2, h3, -⟩ := rootsL_ok roots
  exact ⟨Nat.zero_le _, h1, fun d hd => .root (h2 d hd).1 (h2 d hd).2, h3, fun d hd => by simp at hd, fun d => by simp, fun d => by simp⟩
theorem nodup_take {D : Type} {all : List D} (h : all.Nodup) {i : Nat} (hi : i < all.length) : all[i] ∉ all.take i := fun hm => by
  obtain ⟨j, hj, e⟩ := List.getElem_of_mem hm
  rw [List.length_take] at hj
  rw [List.getElem_take] at e
  exact (List.pairwise_iff_getElem.1 h) j i (by omega) hi (by omega) e
theorem mem_addD' {xs : List (List UInt8)} {d : List UInt8} (y : List UInt8) : y ∈ addD xs d ↔ y ∈ xs ∨ y = d := by rw [mem_addD]; exact Or.comm
theorem dist_new {w w' : World} {c n0 c0 size0 base0 size : Nat} {n : Nat} {t t0 : TypeId} {A A0 : Option Addr} {xs xs0 : List Value} (h : Go.Adm.Own w' w.heap.size t size A n c xs) (h0 : Go.Adm.Own w base0 t0 size0 A0 n0 c0 xs0) : Dist (.slice A n c) (.slice A0 n0 c0) := fun g h1 h2 => by
  have := (h.lt h1).1
  have := (h0.lt h2).2
  omega
end Go.Adm
namespace Go.Proofs.YtkcmaembpfakdaaGreatDoor
open Go Go.RowKit Go.Adm
set_option maxHeartbeats 25600000 in
theorem refClosure_any (w : World) (m : Int) (hm : w.cell? ⟨0, 0, none⟩ = some (.int .i64 m)) (B : Nat) (A : Option Addr) (n c : Nat) (l : List Bl) (hl : Blobs w B A n l) (Ar : Option Addr) (nr cr : Nat) (roots : List (List UInt8)) (hr : Digs w B Ar nr roots) (hn : n ≤ 1000) (hnr : nr ≤ 1000) (hB : B ≤ w.heap.size) :
    Calls Tryz.prog 10 #[.slice A n c, .slice Ar nr cr] w (CloRet l roots w) := by
  have hglob : 0 < w.heap.size := World.block_lt_of_cell? w _ hm
  have HM : Hid (∀ W, Below w.heap.size w W → W.cell? ⟨0, 0, none⟩ = some (.int .i64 m)) := Lib.hid (fun W hb => (hb.cell hglob).trans hm)
  have hR : All w [.own w.heap.size 32 32 none 0 0 (dvs []).flatten, .low (.blobs B A n l), .low (.digs B Ar nr roots), .kept w w.heap.size] := ⟨Go.Adm.Own.nil _ _ _ _, ⟨hl, hB⟩, ⟨hr, hB⟩, ⟨Below.refl _ _, Nat.le_refl _⟩, trivial⟩
  have HLL := Lib.hid hl.len
  have HR32 := Lib.hid hr.each
  have e0 := hr.len
  obtain ⟨T0, hT0⟩ : ∃ T, T = roots.length + costS (lkG l) [] (l.map Bl.d) := ⟨_, rfl⟩
  have hT : T0 ≤ 120001000 := by
    have h1 := costS_le (lkG l) [] 120000 (fun d ls h => lkG_len h) (l.map Bl.d)
    rw [List.length_map] at h1
    have h2 := HLL.out
    have h4 : 120000 * l.length ≤ 120000 * 1000 := Nat.mul_le_mul_left _ (by omega)
    omega
  have HT := Lib.hid hT0
  clear hl hr hT0 hm hglob
  subst e0
  have hzr := zero_dg
  go_enter Tryz.func10, Tryz.ntmps10
  go_wp2_with fail
  go_loopw [6, 7] (fun v i wr => ∃ (k : Nat) (A' : Option Addr) (c' : Nat) (o : List (List UInt8)), k ≤ roots.length ∧ i = .int .i64 k ∧ v = .slice A' o.length c' ∧ o.length ≤ k ∧ Hid (o = rootsL (roots.take k)) ∧ All wr [.own w.heap.size 32 32 A' o.length c' (dvs o).flatten, .low (.blobs B A n l), .low (.digs B Ar roots.length roots), .kept w w.heap.size]) (fun _ i _ => roots.length - (intOf i).toNat)
  case atStart => exact ⟨0, none, 0, [], Nat.zero_le _, rfl, rfl, Nat.le_refl _, Lib.hid rfl, hR⟩
  case round =>
    clear hR
    obtain ⟨k, A', c', o, hk, rfl, rfl, hok, HO, hI⟩ := hrel
    by_cases hlt : k < roots.length
    · have d1 : decide ((k : Int) < (roots.length : Int)) = true := by simp; omega
      obtain ⟨ad, rfl, hadB, hc⟩ := (hI.at_ 2 rfl : Digs wr B Ar roots.length roots ∧ _).1.elem hlt
      have HC : Hid (∀ W, All W [.low (.digs B (some ad) roots.length roots)] → ∀ j u, (roots[k].map bv)[j]? = some u → W.cell? ((ad.add (k * 32)).add j) = some u) := Lib.hid (fun W hW => by
        obtain ⟨ad', e, _, hc⟩ := (hW.at_ 0 rfl : Digs W B (some ad) roots.length roots ∧ B ≤ W.heap.size).1.elem hlt
        obtain rfl := Option.some.inj e
        exact hc)
      have HD := Lib.hid (HR32.out _ (List.getElem_mem hlt))
      have HST := Lib.hid (rootsL_step hlt HO.out)
      have HO32 : Hid (∀ x ∈ o, x.length = 32) := Lib.hid (fun x hx => by
        rw [HO.out] at hx
        exact HR32.out x (List.mem_of_mem_take ((rootsL_ok (roots.take k)).2.1 x hx).1))
      clear hc
      generalize roots[k] = d at *
      have wk0 : (0 : Int) ≤ (k : Int) := by omega
      have wk1 : (k : Int) < (roots.length : Int) := by omega
      have wk2 : ((k : Int)).toNat = k := by omega
      have hkw : w.heap.size ≤ wr.heap.size := hI.size_kept 3 rfl
      have hc0 := HC.out wr ⟨hI.at_ 2 rfl, trivial⟩
      have HNE : Hid (∀ W, (binOp .neq 32 (.agg (d.map bv).toArray) (.agg (z32.map bv).toArray)).run Tryz.prog W = .ok (.bool (!decide (d = z32))) W) := Lib.hid (fun W => ne_dg W d z32 HD.out rfl)
      by_cases hz : d = z32
      · have HO2 : Hid (o = rootsL (roots.take (k + 1))) := Lib.hid (by rw [HST.out]; unfold addR; rw [if_pos (.inl hz)])
        have HZ : Hid ((!decide (d = z32)) = false) := Lib.hid (by simp [hz])
        clear hz HO HST
        go_wp2_with (first
          | (refine wl_load_any rfl 32 (.tmp 23) rfl (ad.add (k * 32)) rfl (d.map bv) _ hc0 Tryz.underlying32 rfl (by rw [List.length_map, HD.out]; kernel_rfl) ?_)
          | (refine wl_neq_met rfl (.tmp 24) (.tmp 25) rfl (.bool false) ((HNE.out _).trans (by rw [HZ.out])) (by go_simp) ?_))
        exact ⟨⟨k + 1, A', c', o, by omega, by go_num, rfl, by omega, HO2, hI⟩, by simp [intOf]; omega⟩
      · have HZ : Hid ((!decide (d = z32)) = true) := Lib.hid (by simp [hz])
        have hhas := Has_any wr wr.heap.size A' o.length c' o d (digs_own (hI.at_ 0 rfl) HO32.out) HD.out (by omega) (Nat.le_refl _)
        by_cases hds : d ∈ o
        · have HO2 : Hid (o = rootsL (roots.take (k + 1))) := Lib.hid (by rw [HST.out]; unfold addR; rw [if_pos (.inr hds)])
          have dd : decide (d ∈ o) = true := by simpa using hds
          rw [dd] at hhas
          clear hz HO HST dd hds
          go_wp2_with (first
            | (refine wl_load_any rfl 32 (.tmp 23) rfl (ad.add (k * 32)) rfl (d.map bv) _ hc0 Tryz.underlying32 rfl (by rw [List.length_map, HD.out]; kernel_rfl) ?_)
            | (refine wl_neq_met rfl (.tmp 24) (.tmp 25) rfl (.bool true) ((HNE.out _).trans (by rw [HZ.out])) (by go_simp) ?_)
            | (refine wl_load_met rfl 32 (.tmp 31) rfl (ad.add (k * 32)) rfl (d.map bv) _ hc0 Tryz.underlying32 rfl (by rw [List.length_map, HD.out]; kernel_rfl) ?_)
            | (go_at_call 13; refine hhas.mono ?_; clear hhas; rintro e w6 ⟨rfl, hb6⟩; have hI6 := hI.call hb6))
          exact ⟨⟨k + 1, A', c', o, by omega, by go_num, rfl, by omega, HO2, hI6⟩, by simp [intOf]; omega⟩
        · have HO2 : Hid (o ++ [d] = rootsL (roots.take (k + 1))) := Lib.hid (by rw [HST.out]; unfold addR; rw [if_neg (fun h => h.elim hz hds)])
          have dd : decide (d ∈ o) = false := by simpa using hds
          rw [dd] at hhas
          clear hz HO HST dd hds
          go_upto_region 6 with (first
            | (refine wl_load_any rfl 32 (.tmp 23) rfl (ad.add (k * 32)) rfl (d.map bv) _ hc0 Tryz.underlying32 rfl (by rw [List.length_map, HD.out]; kernel_rfl) ?_)
            | (refine wl_neq_met rfl (.tmp 24) (.tmp 25) rfl (.bool true) ((HNE.out _).trans (by rw [HZ.out])) (by go_simp) ?_)
            | (refine wl_load_met rfl 32 (.tmp 31) rfl (ad.add (k * 32)) rfl (d.map bv) _ hc0 Tryz.underlying32 rfl (by rw [List.length_map, HD.out]; kernel_rfl) ?_)
            | (go_at_call 13; refine hhas.mono ?_; clear hhas; rintro e w6 ⟨rfl, hb6⟩; have hI6 := hI.call hb6))
          have hk6 : w.heap.size ≤ w6.heap.size := hI6.size_kept 3 rfl
          have hc6 := HC.out w6 ⟨hI6.at_ 2 rfl, trivial⟩
          have hrd7 : Rd (w6.alloc (.cells (d.map bv).toArray 32)) (w6.heap.size + 1) 32 (some ⟨w6.heap.size, 0, none⟩) 1 (d.map bv) := Rd.lit (size := 32) w6 (d.map bv).toArray 32 1 (by rw [List.size_toArray, List.length_map]; exact HD.out)
          have hI7 := All.alloc hI6 (.cells (d.map bv).toArray 32)
          clear hI hb6 hc0
          go_wp2_with (first
            | (refine wl_load_any rfl 32 (.tmp 39) rfl (ad.add (k * 32)) rfl (d.map bv) _ hc6 Tryz.underlying32 rfl (by rw [List.length_map, HD.out]; kernel_rfl) ?_)
            | (refine wl_lit1 el_dg rfl (.tmp 40) rfl (d.map bv) rfl (by rw [List.length_map]; exact HD.out) (by decide) ?_)
            | (at_builtin; refine wl_app_at el_dg hI7 0 rfl (.tmp 36) (.tmp 41) rfl w.heap.size _ _ _ _ rfl rfl (w6.heap.size + 1) _ 1 1 (d.map bv) rfl hrd7 (bv_one _) (by omega) (by simp; omega) (by intro g hg h; exact ⟨fun g' e => (by injection e with e; subst e; exact Nat.le_trans hB hg), fun g' e => (by injection e with e; subst e; exact Nat.le_trans hB hg), fun g' e => (by injection e with e; subst e; exact hg), trivial⟩) ?_; intro A7 c7 w7 hI8 hs8))
          simp only [List.set_cons_zero] at hI8
          refine ⟨⟨k + 1, A7, c7, o ++ [d], by omega, by go_num, by rw [List.length_append]; rfl, by rw [List.length_append, List.length_singleton]; omega, HO2, ?_⟩, by simp [intOf]; omega⟩
          rw [List.length_append, List.length_singleton, dvs_snoc]
          exact hI8
    · have d1 : decide ((k : Int) < (roots.length : Int)) = false := by simp; omega
      have HF : Hid (o = rootsL roots) := Lib.hid (by rw [HO.out, List.take_of_length_le (by omega)])
      have hro := rootsL_ok roots
      have hst := RefI.start (G := lkG l) roots
      rw [← HF.out] at hro hst
      have HRO := Lib.hid hro
      have HS0 := Lib.hid hst
      have hol : o.length ≤ roots.length := hro.2.2.2
      have hJ : All wr [.own w.heap.size 32 32 A' o.length c' (dvs o).flatten, .own w.heap.size 32 32 none 0 0 (dvs []).flatten, .own w.heap.size 32 32 none 0 0 (dvs []).flatten, .low (.blobs B A n l), .kept w w.heap.size] := ⟨hI.1, Go.Adm.Own.nil _ _ _ _, Go.Adm.Own.nil _ _ _ _, hI.at_ 1 rfl, hI.at_ 3 rfl, trivial⟩
      have HO32 : Hid (∀ x ∈ o, x.length = 32) := Lib.hid (fun x hx => HR32.out x (HRO.out.2.1 x hx).1)
      clear hI HO hro hst hok
      go_wp2_with fail
      go_loopw [6, 8, 9, 10] (fun va vp vm vi wr => ∃ (all P M : List (List UInt8)) (Aa Ap Am : Option Addr) (ca cp cm i : Nat), va = .slice Aa all.length ca ∧ vp = .slice Ap P.length cp ∧ vm = .slice Am M.length cm ∧ vi = .int .i64 i ∧ i ≤ all.length ∧ RefI z32 (lkG l) roots all i P M ∧ Hid (Asc P) ∧ Hid (Asc M) ∧ Hid (∀ d ∈ all, d.length = 32) ∧ Hid (∀ d ∈ P, d.length = 32) ∧ Hid (∀ d ∈ M, d.length = 32) ∧ P.length ≤ i ∧ M.length ≤ i ∧ all.length + costS (lkG l) (all.take i) (l.map Bl.d) ≤ T0 ∧ Hid (Dist (.slice Ap P.length cp) (.slice Aa all.length ca)) ∧ Hid (Dist (.slice Am M.length cm) (.slice Aa all.length ca)) ∧ All wr [.own w.heap.size 32 32 Aa all.length ca (dvs all).flatten, .own w.heap.size 32 32 Ap P.length cp (dvs P).flatten, .own w.heap.size 32 32 Am M.length cm (dvs M).flatten, .low (.blobs B A n l), .kept w w.heap.size]) (fun _ _ _ vi _ => T0 - (intOf vi).toNat)
      case atStart => exact ⟨o, [], [], A', none, none, c', 0, 0, 0, rfl, rfl, rfl, rfl, Nat.zero_le _, HS0.out, Lib.hid List.Pairwise.nil, Lib.hid List.Pairwise.nil, HO32, Lib.hid (fun d h => by cases h), Lib.hid (fun d h => by cases h), Nat.le_refl _, Nat.le_refl _, by rw [HT.out, List.take_zero]; omega, Lib.hid Dist.none, Lib.hid Dist.none, hJ⟩
      case round =>
        clear hJ HF HRO HS0 HO32
        obtain ⟨all, P, M, Aa, Ap, Am, ca, cp, cm, i, rfl, rfl, rfl, rfl, hia, hC, HAP, HAM, HA32, HP32, HM32, hpi, hmi, hcost, D1, D2, hI⟩ := hrel
        by_cases hlt : i < all.length
        · have d2 : decide ((i : Int) < (all.length : Int)) = true := by simp; omega
          have hT1 : all.length ≤ T0 := by omega
          have wk0 : (0 : Int) ≤ (i : Int) := by omega
          have wk1 : (i : Int) < (all.length : Int) := by omega
          have wk2 : ((i : Int)).toNat = i := by omega
          obtain ⟨ad, rfl, hadB, hc⟩ := (digs_own (hI.at_ 0 rfl) HA32.out).elem hlt
          have HC : Hid (∀ W, All W [.own w.heap.size 32 32 (some ad) all.length ca (dvs all).flatten] → ∀ j u, (all[i].map bv)[j]? = some u → W.cell? ((ad.add (i * 32)).add j) = some u) := Lib.hid (fun W hW => by
            obtain ⟨ad', e, _, hc⟩ := (digs_own (hW.at_ 0 rfl) HA32.out).elem hlt
            obtain rfl := Option.some.inj e
            exact hc)
          have HNT := Lib.hid (nodup_take hC.nd hlt)
          have hdk : all[i] = all[i] := rfl
          obtain ⟨d, hd⟩ : ∃ d, d = all[i] := ⟨_, rfl⟩
          rw [← hd] at HC HNT hc
          have HD : Hid (d.length = 32) := Lib.hid (by rw [hd]; exact HA32.out _ (List.getElem_mem hlt))
          have HDE := Lib.hid hd
          have HCC := Lib.hid hC
          have HCO := Lib.hid hcost
          have HMON := Lib.hid (costS_mono (G := lkG l) (S := all.take i) d (l.map Bl.d))
          have HTS : Hid (∀ x, x ∈ d :: all.take i ↔ x ∈ all.take (i + 1)) := Lib.hid (fun x => by rw [take_snoc hlt, hd, List.mem_cons]; exact Or.comm)
          have HNP : Hid (d ∉ P) := Lib.hid (fun h => HNT.out ((HCC.out.pres d).1 h).1)
          have HNM : Hid (d ∉ M) := Lib.hid (fun h => HNT.out ((HCC.out.miss d).1 h).1)
          have hkw : w.heap.size ≤ wr.heap.size := hI.size_kept 4 rfl
          have hget := refGet_any wr B A n c l d (hI.at_ 3 rfl : _ ∧ _).1 HD.out (by omega) (hI.at_ 3 rfl : _ ∧ B ≤ wr.heap.size).2
          have hc0 := HC.out wr ⟨hI.at_ 0 rfl, trivial⟩
          clear hc hd hdk hC hcost
          cases hlk : lookB l d with
          | none =>
            have HLK := Lib.hid (lkG_none hlk)
            rw [hlk] at hget
            simp only [got] at hget
            clear hlk
            go_upto_region 13 with (first
              | (refine wl_load_any rfl 32 (.tmp 53) rfl (ad.add (i * 32)) rfl (d.map bv) _ hc0 Tryz.underlying32 rfl (by rw [List.length_map, HD.out]; kernel_rfl) ?_)
              | (go_at_call 31; refine hget.mono ?_; clear hget; rintro e w6 ⟨rfl, hb6⟩; have hI6 := hI.call hb6))
            have hc6 := HC.out w6 ⟨hI6.at_ 0 rfl, trivial⟩
            have hadd := Add_any w6 w6.heap.size Am M.length cm M d (digs_own (hI6.at_ 2 rfl) HM32.out) HD.out (by omega) (hI6.at_ 2 rfl : Go.Adm.Own _ _ _ _ _ _ _ _).cap.1 (hI6.at_ 2 rfl : Go.Adm.Own _ _ _ _ _ _ _ _).cap.2 (Nat.le_refl _)
            have hk6 : w.heap.size ≤ w6.heap.size := hI6.size_kept 4 rfl
            have HO6 := Lib.hid (hI6.at_ 0 rfl : Go.Adm.Own w6 w.heap.size 32 32 (some ad) all.length ca (dvs all).flatten)
            clear hI hb6 hc0
            go_wp2_with (first
              | (refine wl_load_any rfl 32 (.tmp 63) rfl (ad.add (i * 32)) rfl (d.map bv) _ hc6 Tryz.underlying32 rfl (by rw [List.length_map, HD.out]; kernel_rfl) ?_)
              | (go_at_call 32; refine hadd.mono ?_; clear hadd; rintro e w7 ⟨A7, n7, c7, rfl, hD7, hn7, hm7, hb7, hO7⟩; have hI7 := hI6.call hb7))
            have hq := hD7.len
            subst hq
            have hO8 := hO7 HNM.out
            have HD8 : Hid (Dist (.slice A7 (addD M d).length c7) (.slice (some ad) all.length ca)) := Lib.hid (dist_new hO8 HO6.out)
            have hco := HCO.out
            have hmo := HMON.out
            have hcg := costS_congr (G := lkG l) HTS.out (l.map Bl.d)
            have hal := addD_len (xs := M) (d := d)
            refine ⟨⟨all, P, addD M d, some ad, Ap, A7, ca, cp, c7, i + 1, rfl, rfl, rfl, by go_num, by omega, HCC.out.gone hlt (by rw [← HDE.out]; exact HLK.out) (fun y => by rw [← HDE.out]; exact mem_addD' y), HAP, Lib.hid (addD_asc HAM.out), HA32, HP32, Lib.hid (addD_32 HM32.out HD.out), by omega, by omega, by omega, D1, HD8, hI7.1, hI7.2.1, hO8.less hk6, hI7.2.2.2⟩, by simp [intOf]; omega⟩
          | some x =>
            have HLK := Lib.hid (lkG_some hlk)
            have HPUT := Lib.hid (costS_put (l := l.map Bl.d) HNT.out (lkG_some hlk) (lookB_key hlk))
            have HXM := Lib.hid (lookB_mem hlk)
            have hl12 := linksB_len x.b
            have HL32 : Hid (∀ e ∈ linksB x.b, e.length = 32) := Lib.hid (fun e he => (linksW_each _ e he).1)
            have HLZ : Hid (∀ e ∈ linksB x.b, e ≠ z32) := Lib.hid (fun e he => (linksW_each _ e he).2)
            rw [hlk] at hget
            simp only [got] at hget
            clear hlk
            go_upto_region 14 with (first
              | (refine wl_load_any rfl 32 (.tmp 53) rfl (ad.add (i * 32)) rfl (d.map bv) _ hc0 Tryz.underlying32 rfl (by rw [List.length_map, HD.out]; kernel_rfl) ?_)
              | (go_at_call 31; refine hget.mono ?_; clear hget; rintro e w6 ⟨rfl, hb6⟩; have hI6 := hI.call hb6))
            have hc6 := HC.out w6 ⟨hI6.at_ 0 rfl, trivial⟩
            have hadd := Add_any w6 w6.heap.size Ap P.length cp P d (digs_own (hI6.at_ 1 rfl) HP32.out) HD.out (by omega) (hI6.at_ 1 rfl : Go.Adm.Own _ _ _ _ _ _ _ _).cap.1 (hI6.at_ 1 rfl : Go.Adm.Own _ _ _ _ _ _ _ _).cap.2 (Nat.le_refl _)
            have hk6 : w.heap.size ≤ w6.heap.size := hI6.size_kept 4 rfl
            have HO6 := Lib.hid (hI6.at_ 0 rfl : Go.Adm.Own w6 w.heap.size 32 32 (some ad) all.length ca (dvs all).flatten)
            clear hI hb6 hc0
            go_upto_region 15 with (first
              | (refine wl_load_any rfl 32 (.tmp 69) rfl (ad.add (i * 32)) rfl (d.map bv) _ hc6 Tryz.underlying32 rfl (by rw [List.length_map, HD.out]; kernel_rfl) ?_)
              | (go_at_call 32; refine hadd.mono ?_; clear hadd; rintro e w7 ⟨A7, n7, c7, rfl, hD7, hn7, hm7, hb7, hO7⟩; have hI7 := hI6.call hb7))
            have hq := hD7.len
            subst hq
            have hO8 := hO7 HNP.out
            have HD8 : Hid (Dist (.slice A7 (addD P d).length c7) (.slice (some ad) all.length ca)) := Lib.hid (dist_new hO8 HO6.out)
            have hal := addD_len (xs := P) (d := d)
            have HP8 : Hid (∀ y ∈ addD P d, y.length = 32) := Lib.hid (addD_32 HP32.out HD.out)
            have HPM : Hid (∀ y, y ∈ addD P d ↔ y ∈ P ∨ y = d) := Lib.hid (fun y => mem_addD' y)
            have HPA : Hid (Asc (addD P d)) := Lib.hid (addD_asc HAP.out)
            have hI8 : All w7 [.own w.heap.size 32 32 (some ad) all.length ca (dvs all).flatten, .own w.heap.size 32 32 A7 (addD P d).length c7 (dvs (addD P d)).flatten, .own w.heap.size 32 32 Am M.length cm (dvs M).flatten, .low (.blobs B A n l), .kept w w.heap.size] := ⟨hI7.1, hO8.less hk6, hI7.2.2⟩
            clear hI6 hI7 hc6 hD7 hO7 hO8 hb7 HO6 hn7 hm7 D1 HP32 HAP
            generalize addD P d = P' at *
            have hbx := (hI8.at_ 3 rfl : Blobs w7 B A n l ∧ B ≤ w7.heap.size)
            have hlinks := refLinks_any w7 m (HM.out w7 (hI8.at_ 4 rfl : _ ∧ _).1) B x.A x.n x.c x.b (hbx.1.each x HXM.out).rd (hbx.1.each x HXM.out).nc (hbx.1.each x HXM.out).cm hbx.2
            have HO7 := Lib.hid (hI8.at_ 0 rfl : Go.Adm.Own w7 w.heap.size 32 32 (some ad) all.length ca (dvs all).flatten)
            have hk7 : w.heap.size ≤ w7.heap.size := hI8.size_kept 4 rfl
            clear hbx
            generalize linksB x.b = ls at *
            go_upto_region 16 with (go_at_call 15; refine hlinks.mono ?_; clear hlinks; rintro e w8 ⟨Al, cl, rfl, hOl, hb8⟩; have hI9 := hI8.call hb8; have HDL : Hid (Dist (.slice Al ls.length cl) (.slice (some ad) all.length ca)) := Lib.hid (dist_new hOl HO7.out))
            have hJ0 : All w8 [.own w.heap.size 32 32 (some ad) all.length ca (dvs all).flatten, .own w.heap.size 32 32 A7 P'.length c7 (dvs P').flatten, .own w.heap.size 32 32 Am M.length cm (dvs M).flatten, .own w.heap.size 32 32 Al ls.length cl (dvs ls).flatten, .low (.blobs B A n l), .kept w w.heap.size] := ⟨hI9.1, hI9.2.1, hI9.2.2.1, hOl.less hk7, hI9.2.2.2⟩
            clear hI8 hI9 hOl hb8 HO7 HC
            go_wp2_with fail
            obtain ⟨wo, rfl⟩ : ∃ wo : World, wo = wr := ⟨wr, rfl⟩
            go_loopw [6, 14] (fun va vk wr => ∃ (all' : List (List UInt8)) (Aa : Option Addr) (ca k : Nat), va = .slice Aa all'.length ca ∧ vk = .int .i64 k ∧ k ≤ ls.length ∧ GrowI z32 all ls k all' ∧ Hid (∀ d ∈ all', d.length = 32) ∧ Hid (Dist (.slice A7 P'.length c7) (.slice Aa all'.length ca)) ∧ Hid (Dist (.slice Am M.length cm) (.slice Aa all'.length ca)) ∧ Hid (Dist (.slice Al ls.length cl) (.slice Aa all'.length ca)) ∧ All wr [.own w.heap.size 32 32 Aa all'.length ca (dvs all').flatten, .own w.heap.size 32 32 A7 P'.length c7 (dvs P').flatten, .own w.heap.size 32 32 Am M.length cm (dvs M).flatten, .own w.heap.size 32 32 Al ls.length cl (dvs ls).flatten, .low (.blobs B A n l), .kept w w.heap.size]) (fun _ vk _ => ls.length - (intOf vk).toNat)
            case atStart => exact ⟨all, some ad, ca, 0, rfl, rfl, Nat.zero_le _, GrowI.start HCC.out.nd, HA32, HD8, D2, HDL, hJ0⟩
            case round =>
              clear hJ0 HD8 D2 HDL
              obtain ⟨all', Ag, cg, k, rfl, rfl, hkl, hG, HG32, E1, E2, E3, hI⟩ := hrel
              by_cases hkt : k < ls.length
              · have d3 : decide ((k : Int) < (ls.length : Int)) = true := by simp; omega
                have hgl := hG.len
                have HGL := Lib.hid hG
                clear hG
                obtain ⟨al, rfl, halB, hcl⟩ := (digs_own (hI.at_ 3 rfl) HL32.out).elem hkt
                have HCL : Hid (∀ W, All W [.own w.heap.size 32 32 (some al) ls.length cl (dvs ls).flatten] → ∀ j u, (ls[k].map bv)[j]? = some u → W.cell? ((al.add (k * 32)).add j) = some u) := Lib.hid (fun W hW => by
                  obtain ⟨ad', e, _, hc⟩ := (digs_own (hW.at_ 0 rfl) HL32.out).elem hkt
                  obtain rfl := Option.some.inj e
                  exact hc)
                have hcl0 := HCL.out wr ⟨hI.at_ 3 rfl, trivial⟩
                obtain ⟨y, hy⟩ : ∃ y, y = ls[k] := ⟨_, rfl⟩
                rw [← hy] at HCL hcl0
                have HY : Hid (y.length = 32) := Lib.hid (by rw [hy]; exact HL32.out _ (List.getElem_mem hkt))
                have HYE := Lib.hid hy
                clear hcl hy
                have vk0 : (0 : Int) ≤ (k : Int) := by omega
                have vk1 : (k : Int) < (ls.length : Int) := by omega
                have vk2 : ((k : Int)).toNat = k := by omega
                have hhas := Has_any wr wr.heap.size Ag all'.length cg all' y (digs_own (hI.at_ 0 rfl) HG32.out) HY.out (by omega) (Nat.le_refl _)
                by_cases hds : y ∈ all'
                · have dd : decide (y ∈ all') = true := by simpa using hds
                  have HG2 := Lib.hid (HGL.out.had hkt (by rw [← HYE.out]; exact hds))
                  rw [dd] at hhas
                  clear dd hds
                  go_wp2_with (first
                    | (refine wl_load_any rfl 32 (.tmp 83) rfl (al.add (k * 32)) rfl (y.map bv) _ hcl0 Tryz.underlying32 rfl (by rw [List.length_map, HY.out]; kernel_rfl) ?_)
                    | (go_at_call 13; refine hhas.mono ?_; clear hhas; rintro e w9 ⟨rfl, hb9⟩; have hI9 := hI.call hb9))
                  exact ⟨⟨all', Ag, cg, k + 1, rfl, by go_num, by omega, HG2.out, HG32, E1, E2, E3, hI9⟩, by simp [intOf]; omega⟩
                · have dd : decide (y ∈ all') = false := by simpa using hds
                  have HG2 : Hid (GrowI z32 all ls (k + 1) (all' ++ [y])) := Lib.hid (by rw [HYE.out]; exact HGL.out.new hkt (by rw [← HYE.out]; exact hds))
                  rw [dd] at hhas
                  clear dd hds
                  go_upto_region 20 with (first
                    | (refine wl_load_any rfl 32 (.tmp 83) rfl (al.add (k * 32)) rfl (y.map bv) _ hcl0 Tryz.underlying32 rfl (by rw [List.length_map, HY.out]; kernel_rfl) ?_)
                    | (go_at_call 13; refine hhas.mono ?_; clear hhas; rintro e w9 ⟨rfl, hb9⟩; have hI9 := hI.call hb9))
                  have hc9 := HCL.out w9 ⟨hI9.at_ 3 rfl, trivial⟩
                  have hk9 : w.heap.size ≤ w9.heap.size := hI9.size_kept 5 rfl
                  have hrd : Rd (w9.alloc (.cells (y.map bv).toArray 32)) (w9.heap.size + 1) 32 (some ⟨w9.heap.size, 0, none⟩) 1 (y.map bv) := Rd.lit (size := 32) w9 (y.map bv).toArray 32 1 (by rw [List.size_toArray, List.length_map]; exact HY.out)
                  have hIa := All.alloc hI9 (.cells (y.map bv).toArray 32)
                  clear hI hb9 hcl0
                  go_wp2_with (first
                    | (refine wl_load_any rfl 32 (.tmp 90) rfl (al.add (k * 32)) rfl (y.map bv) _ hc9 Tryz.underlying32 rfl (by rw [List.length_map, HY.out]; kernel_rfl) ?_)
                    | (refine wl_lit1 el_dg rfl (.tmp 91) rfl (y.map bv) rfl (by rw [List.length_map]; exact HY.out) (by decide) ?_)
                    | (at_builtin; refine wl_app_at6 el_dg hIa 0 rfl (.tmp 87) (.tmp 92) rfl w.heap.size _ _ _ _ rfl rfl (w9.heap.size + 1) _ 1 1 (y.map bv) rfl hrd (bv_one _) (by omega) (by simp; omega) (by intro g hg h; exact ⟨fun g' e => .inr (by injection e with e; subst e; exact E1.out.symm g h), fun g' e => .inr (by injection e with e; subst e; exact E2.out.symm g h), fun g' e => .inr (by injection e with e; subst e; exact E3.out.symm g h), fun g' e => (by injection e with e; subst e; exact Nat.le_trans hB hg), fun g' e => (by injection e with e; subst e; exact hg), trivial⟩) ?_; intro Ab cb wb hIb hsb h6))
                  simp only [List.set_cons_zero] at hIb
                  have F1 : Hid (Dist (.slice A7 P'.length c7) (.slice Ab (all'.length + 1) cb)) := Lib.hid (Dist.app E1.out.symm h6 (hIa.at_ 1 rfl)).symm
                  have F2 : Hid (Dist (.slice Am M.length cm) (.slice Ab (all'.length + 1) cb)) := Lib.hid (Dist.app E2.out.symm h6 (hIa.at_ 2 rfl)).symm
                  have F3 : Hid (Dist (.slice (some al) ls.length cl) (.slice Ab (all'.length + 1) cb)) := Lib.hid (Dist.app E3.out.symm h6 (hIa.at_ 3 rfl)).symm
                  refine ⟨⟨all' ++ [y], Ab, cb, k + 1, by rw [List.length_append]; rfl, by go_num, by omega, HG2.out, Lib.hid (fun x hx => (List.mem_append.1 hx).elim (HG32.out x) (fun h => by rw [List.mem_singleton.1 h]; exact HY.out)), by rw [List.length_append]; exact F1, by rw [List.length_append]; exact F2, by rw [List.length_append]; exact F3, ?_⟩, by simp [intOf]; omega⟩
                  rw [List.length_append, List.length_singleton, dvs_snoc]
                  exact hIb
              · have d3 : decide ((k : Int) < (ls.length : Int)) = false := by simp; omega
                obtain rfl : k = ls.length := by omega
                have hgl := hG.len
                have hpre := hG.pre
                have HC2 := Lib.hid (HCC.out.have hlt (by rw [← HDE.out]; exact HLK.out) HLZ.out (fun y => by rw [← HDE.out]; exact HPM.out y) hG)
                have hco := HCO.out
                have hpu := HPUT.out
                have htk : all'.take (i + 1) = all.take (i + 1) := by
                  obtain ⟨t, rfl⟩ := hpre
                  exact List.take_append_of_le_length hlt
                have hcg := costS_congr (G := lkG l) HTS.out (l.map Bl.d)
                have hle := hpre.length_le
                clear hG hpre
                go_wp2_with fail
                exact ⟨⟨all', P', M, Ag, A7, Am, cg, c7, cm, i + 1, rfl, rfl, rfl, by go_num, by omega, HC2.out, HPA, HAM, HG32, HP8, HM32, by omega, by omega, by rw [htk]; omega, E1, E2, hI.1, hI.2.1, hI.2.2.1, hI.2.2.2.2⟩, by simp [intOf]; omega⟩
        · have d2 : decide ((i : Int) < (all.length : Int)) = false := by simp; omega
          obtain rfl : i = all.length := by omega
          have HOK := Lib.hid (hC.done (fun d ls h => lkG_nz h))
          clear hC
          go_wp2_with fail
          go_ret2
          exact ⟨Ap, cp, Am, cm, P, M, rfl, ⟨HOK.out, HP32.out, HM32.out, HAP.out, HAM.out, by omega, by omega⟩, digs_own (hI.at_ 1 rfl) HP32.out, digs_own (hI.at_ 2 rfl) HM32.out, (hI.at_ 4 rfl : _ ∧ _).1⟩
end Go.Proofs.YtkcmaembpfakdaaGreatDoor

/- Equality of stores; light; awake. The sanity check: three bytes are stored. -/
import Derived.Test.YtkcmaembpfakdaaGreatDoorSto20
import Derived.Lib.SlBytesConst
set_option linter.unusedSimpArgs false
set_option linter.unusedVariables false
set_option maxRecDepth 100000
namespace Go.Proofs.YtkcmaembpfakdaaGreatDoor
open Go Go.RowKit Go.Adm
theorem ne_dg (w : World) (x y : List UInt8) (hx : x.length = 32) (hy : y.length = 32) : (binOp .neq 32 (.agg (x.map bv).toArray) (.agg (y.map bv).toArray)).run Tryz.prog w = .ok (.bool (!decide (x = y))) w := by
  have h := eq_dg w x y hx hy
  rw [run_eql_struct] at h
  rw [run_neq_struct]
  revert h
  generalize (Op.equalIn 10000 32 (.agg (x.map bv).toArray) (.agg (y.map bv).toArray)).run Tryz.prog w = q
  intro h
  cases q with
  | ok b w' =>
    simp only [Result.andThen, Result.ok.injEq, Value.bool.injEq] at h ⊢
    exact ⟨by rw [h.1], h.2⟩
  | _ => simp [Result.andThen] at h
theorem eqIn_dg (w : World) (x y : List UInt8) (hx : x.length = 32) (hy : y.length = 32) : (Op.equalIn 10000 32 (.agg (x.map bv).toArray) (.agg (y.map bv).toArray)).run Tryz.prog w = .ok (decide (x = y)) w := by
  have h := eq_dg w x y hx hy
  rw [run_eql_struct] at h
  revert h
  generalize (Op.equalIn 10000 32 (.agg (x.map bv).toArray) (.agg (y.map bv).toArray)).run Tryz.prog w = q
  intro h
  cases q with
  | ok b w' =>
    simp only [Result.andThen, Result.ok.injEq, Value.bool.injEq] at h ⊢
    exact ⟨h.1, h.2⟩
  | _ => simp [Result.andThen] at h
theorem conv_b {w : World} {B : Nat} {A : Option Addr} {n c : Nat} {b : List UInt8} (h : Rd w B 1 A n (b.map bv)) : (convert 36 9 (.slice A n c)).run Tryz.prog w = .ok (.string ⟨b.toArray⟩) w :=
  run_conv (P := Tryz.prog) w 36 9 5 el_b8.ht Tryz.underlying5 Tryz.underlying9 h

set_option maxHeartbeats 3200000 in
theorem Same_true (w : World) (B : Nat) (A1 A2 : Option Addr) (n c1 c2 : Nat) (l1 l2 : List Bl) (h1 : Blobs w B A1 n l1) (h2 : Blobs w B A2 n l2) (hp : l1.map pr = l2.map pr) (hn2 : n ≤ 1000000) (hB : B ≤ w.heap.size) :
    Calls Tryz.prog 18 #[.slice A1 n c1, .slice A2 n c2] w fun e w' => e = .returned (.bool true) ∧ Below w.heap.size w w' := by
  have hR : All w [.low (.blobs B A1 n l1), .low (.blobs B A2 n l2), .kept w w.heap.size] := ⟨⟨h1, hB⟩, ⟨h2, hB⟩, ⟨Below.refl _ _, Nat.le_refl _⟩, trivial⟩
  have HN1 := Lib.hid h1.len
  have HN2 := Lib.hid h2.len
  have HPR := Lib.hid hp
  clear h1 h2 hp
  go_enter Tryz.func18, Tryz.ntmps18
  go_upto_region 1 with (fail)
  have hI0 := hR
  clear hR
  go_wp2
  go_loopw [5] (fun i wr => ∃ k : Nat, k ≤ n ∧ i = .int .i64 k ∧ All wr [.low (.blobs B A1 n l1), .low (.blobs B A2 n l2), .kept w w.heap.size]) (fun i _ => n - (intOf i).toNat)
  case atStart => exact ⟨0, by omega, rfl, hI0⟩
  case round =>
    clear hI0
    obtain ⟨k, hk, rfl, hI⟩ := hrel
    by_cases hlt : k < n
    · have hk1 : k < l1.length := by rw [HN1.out]; exact hlt
      have hk2 : k < l2.length := by rw [HN2.out]; exact hlt
      have hb1 := (hI.at_ 0 rfl : Blobs wr B A1 n l1 ∧ B ≤ wr.heap.size)
      have hb2 := (hI.at_ 1 rfl : Blobs wr B A2 n l2 ∧ B ≤ wr.heap.size)
      obtain ⟨a1, rfl, -, -⟩ := Els.elem hb1.1.els hk1
      obtain ⟨a2, rfl, -, -⟩ := Els.elem hb2.1.els hk2
      have HX : Hid (∀ W, All W [.low (.blobs B (some a1) n l1), .low (.blobs B (some a2) n l2), .kept w w.heap.size] → ∀ q s, (blC l1[k])[q]? = some s → W.cell? ((a1.add (k * 33)).add q) = some s) := Lib.hid (fun W hW => by
        obtain ⟨ad', e, _, hc⟩ := Els.elem (hW.at_ 0 rfl : Blobs W B (some a1) n l1 ∧ B ≤ W.heap.size).1.els hk1
        obtain rfl := Option.some.inj e
        exact hc)
      have HY : Hid (∀ W, All W [.low (.blobs B (some a1) n l1), .low (.blobs B (some a2) n l2), .kept w w.heap.size] → ∀ q s, (blC l2[k])[q]? = some s → W.cell? ((a2.add (k * 33)).add q) = some s) := Lib.hid (fun W hW => by
        obtain ⟨ad', e, _, hc⟩ := Els.elem (hW.at_ 1 rfl : Blobs W B (some a2) n l2 ∧ B ≤ W.heap.size).1.els hk2
        obtain rfl := Option.some.inj e
        exact hc)
      have HBX : Hid (∀ W, All W [.low (.blobs B (some a1) n l1), .low (.blobs B (some a2) n l2), .kept w w.heap.size] → BlOk W B l1[k]) := Lib.hid (fun W hW => (hW.at_ 0 rfl : Blobs W B (some a1) n l1 ∧ B ≤ W.heap.size).1.each _ (List.getElem_mem hk1))
      have HBY : Hid (∀ W, All W [.low (.blobs B (some a1) n l1), .low (.blobs B (some a2) n l2), .kept w w.heap.size] → BlOk W B l2[k]) := Lib.hid (fun W hW => (hW.at_ 1 rfl : Blobs W B (some a2) n l2 ∧ B ≤ W.heap.size).1.each _ (List.getElem_mem hk2))
      have hpe : pr l1[k] = pr l2[k] := by
        have h3 : (l1.map pr)[k]? = (l2.map pr)[k]? := by rw [HPR.out]
        rw [List.getElem?_map, List.getElem?_map, List.getElem?_eq_getElem hk1, List.getElem?_eq_getElem hk2] at h3
        exact Option.some.inj h3
      have hd32 := (hb1.1.each _ (List.getElem_mem hk1)).d32
      clear hb1 hb2
      generalize l1[k] = x at *
      generalize l2[k] = y at *
      obtain ⟨dk, hdk⟩ : ∃ dk, x.d = dk := ⟨_, rfl⟩
      have HD : Hid (dk.length = 32) := Lib.hid (by rw [← hdk]; exact hd32)
      have HxD := Lib.hid hdk
      have HyD : Hid (y.d = dk) := Lib.hid (by rw [← hdk]; exact (congrArg Prod.fst hpe).symm)
      have HE : Hid (x.b = y.b) := Lib.hid (congrArg Prod.snd hpe)
      obtain ⟨s, hs⟩ : ∃ s : ByteArray, s = ⟨x.b.toArray⟩ := ⟨_, rfl⟩
      have HS := Lib.hid hs
      clear hdk hpe hs hd32
      have d1 : decide ((k : Int) < (n : Int)) = true := by simp; omega
      have wk0 : (0 : Int) ≤ (k : Int) := by omega
      have wk1 : (k : Int) < (n : Int) := by omega
      have wk2 : ((k : Int)).toNat = k := by omega
      go_upto_region 6 with (fail)
      refine wp_region_hopsH 25 (17 :: 18 :: 19 :: 20 :: 21 :: 22 :: 23 :: 24 :: 25 :: 26 :: 27 :: 28 :: 29 :: 30 :: 31 :: 32 :: 33 :: 34 :: 35 :: 36 :: 37 :: 38 :: 39 :: 40 :: 41 :: []) [.low (.blobs B (some a1) n l1), .low (.blobs B (some a2) n l2), .kept w w.heap.size]
        (.eq (.slice (some a1) n c1) :: .eq (.int .i64 k) :: .eq (.pointer (some (a1.add (k * 33)))) :: .eq (.pointer (some (a1.add (k * 33)))) :: .eq (.agg (dk.map bv).toArray) :: .eq (.slice (some a2) n c2) :: .eq (.int .i64 k) :: .eq (.pointer (some (a2.add (k * 33)))) :: .eq (.pointer (some (a2.add (k * 33)))) :: .eq (.agg (dk.map bv).toArray) :: .eq (.bool false) :: .eq (.bool false) :: .eq (.slice (some a1) n c1) :: .eq (.int .i64 k) :: .eq (.pointer (some (a1.add (k * 33)))) :: .eq (.pointer (some ⟨(a1.add (k * 33)).block, (a1.add (k * 33)).off + 32, none⟩)) :: .eq (.slice x.A x.n x.c) :: .eq (.string s) :: .eq (.slice (some a2) n c2) :: .eq (.int .i64 k) :: .eq (.pointer (some (a2.add (k * 33)))) :: .eq (.pointer (some ⟨(a2.add (k * 33)).block, (a2.add (k * 33)).off + 32, none⟩)) :: .eq (.slice y.A y.n y.c) :: .eq (.string s) :: .eq (.bool false) :: [])
        (by kernel_rfl) (by kernel_rfl) hI rfl ?hops ?fin
      case hops =>
        refine ⟨?_, ?_, ?_, ?_, ?_, ?_, ?_, ?_, ?_, ?_, ?_, ?_, ?_, ?_, ?_, ?_, ?_, ?_, ?_, ?_, ?_, ?_, ?_, ?_, ?_, trivial⟩
        · intro a W hW hb hd K hK
          have b0 := hb 0 rfl
          go_simp
          exact hK _ _ (World.grownBy.refl _ _) rfl
        · intro a W hW hb hd K hK
          have b5 := hb 5 rfl
          go_simp
          exact hK _ _ (World.grownBy.refl _ _) rfl
        · intro a W hW hb hd K hK
          have b17 : a.tmps[17]?.getD undef = _ := hd ⟨0, .data⟩ (by simp) rfl
          have b18 : a.tmps[18]?.getD undef = _ := hd ⟨1, .data⟩ (by simp) rfl
          go_simp
          exact hK _ _ (World.grownBy.refl _ _) rfl
        · intro a W hW hb hd K hK
          have b19 : a.tmps[19]?.getD undef = _ := hd ⟨2, .data⟩ (by simp) rfl
          go_simp
          exact hK _ _ (World.grownBy.refl _ _) (by first | rfl | (rw [add_zero]; rfl) | (simp [add_zero]; rfl))
        · intro a W hW hb hd K hK
          have b20 : a.tmps[20]?.getD undef = _ := hd ⟨3, .data⟩ (by simp) rfl
          refine wp_load_any 32 (.tmp 20) rfl (a1.add (k * 33)) (show a.eval (.tmp 20) = _ from by simp only [Act.eval, Array.getD_eq_getD_getElem?]; exact b20) (dk.map bv) _ (fun q u hs => HX.out W hW q u (by have := bl_sub0 x q u (by rw [HxD.out]; exact hs); rwa [Nat.zero_add] at this)) Tryz.underlying32 rfl (by rw [List.length_map, HD.out]; kernel_rfl) ?_
          exact hK _ _ (World.grownBy.refl _ _) rfl
        · intro a W hW hb hd K hK
          have b1 := hb 1 rfl
          go_simp
          exact hK _ _ (World.grownBy.refl _ _) rfl
        · intro a W hW hb hd K hK
          have b5 := hb 5 rfl
          go_simp
          exact hK _ _ (World.grownBy.refl _ _) rfl
        · intro a W hW hb hd K hK
          have b22 : a.tmps[22]?.getD undef = _ := hd ⟨5, .data⟩ (by simp) rfl
          have b23 : a.tmps[23]?.getD undef = _ := hd ⟨6, .data⟩ (by simp) rfl
          go_simp
          exact hK _ _ (World.grownBy.refl _ _) rfl
        · intro a W hW hb hd K hK
          have b24 : a.tmps[24]?.getD undef = _ := hd ⟨7, .data⟩ (by simp) rfl
          go_simp
          exact hK _ _ (World.grownBy.refl _ _) (by first | rfl | (rw [add_zero]; rfl) | (simp [add_zero]; rfl))
        · intro a W hW hb hd K hK
          have b25 : a.tmps[25]?.getD undef = _ := hd ⟨8, .data⟩ (by simp) rfl
          refine wp_load_any 32 (.tmp 25) rfl (a2.add (k * 33)) (show a.eval (.tmp 25) = _ from by simp only [Act.eval, Array.getD_eq_getD_getElem?]; exact b25) (dk.map bv) _ (fun q u hs => HY.out W hW q u (by have := bl_sub0 y q u (by rw [HyD.out]; exact hs); rwa [Nat.zero_add] at this)) Tryz.underlying32 rfl (by rw [List.length_map, HD.out]; kernel_rfl) ?_
          exact hK _ _ (World.grownBy.refl _ _) rfl
        · intro a W hW hb hd K hK
          have b21 : a.tmps[21]?.getD undef = _ := hd ⟨4, .data⟩ (by simp) rfl
          have b26 : a.tmps[26]?.getD undef = _ := hd ⟨9, .data⟩ (by simp) rfl
          have q1 := eqIn_dg W dk dk HD.out HD.out
          rw [decide_eq_true (rfl : dk = dk)] at q1
          go_simp
          exact hK _ _ (World.grownBy.refl _ _) rfl
        · intro a W hW hb hd K hK
          have b27 : a.tmps[27]?.getD undef = _ := hd ⟨10, .data⟩ (by simp) rfl
          go_simp
          exact hK _ _ (World.grownBy.refl _ _) rfl
        · refine Or.inl ⟨fun v w h => h, ?_⟩
          intro a W hW hb hd K hK
          have b0 := hb 0 rfl
          go_simp
          exact hK _ _ (World.grownBy.refl _ _) rfl
        · refine Or.inl ⟨fun v w h => h, ?_⟩
          intro a W hW hb hd K hK
          have b5 := hb 5 rfl
          go_simp
          exact hK _ _ (World.grownBy.refl _ _) rfl
        · refine Or.inl ⟨fun v w h => h, ?_⟩
          intro a W hW hb hd K hK
          have b29 : a.tmps[29]?.getD undef = _ := hd ⟨12, .data⟩ (by simp) rfl
          have b30 : a.tmps[30]?.getD undef = _ := hd ⟨13, .data⟩ (by simp) rfl
          go_simp
          exact hK _ _ (World.grownBy.refl _ _) rfl
        · refine Or.inl ⟨fun v w h => h, ?_⟩
          intro a W hW hb hd K hK
          have b31 : a.tmps[31]?.getD undef = _ := hd ⟨14, .data⟩ (by simp) rfl
          go_simp
          exact hK _ _ (World.grownBy.refl _ _) (by first | rfl | (rw [add_zero]; rfl) | (simp [add_zero]; rfl))
        · refine Or.inl ⟨fun v w h => h, ?_⟩
          intro a W hW hb hd K hK
          have b32 : a.tmps[32]?.getD undef = _ := hd ⟨15, .data⟩ (by simp) rfl
          have q1 : W.cell? ⟨(a1.add (k * 33)).block, (a1.add (k * 33)).off + 32, none⟩ = some (.slice x.A x.n x.c) := HX.out W hW 32 _ (bl_last (by rw [HxD.out]; exact HD.out))
          go_simp
          exact hK _ _ (World.grownBy.refl _ _) rfl
        · refine Or.inl ⟨fun v w h => h, ?_⟩
          intro a W hW hb hd K hK
          have b33 : a.tmps[33]?.getD undef = _ := hd ⟨16, .data⟩ (by simp) rfl
          have q1 : (convert 36 9 (.slice x.A x.n x.c)).run Tryz.prog W = .ok (.string s) W := by rw [HS.out]; exact conv_b (HBX.out W hW).rd
          go_simp
          exact hK _ _ (World.grownBy.refl _ _) rfl
        · refine Or.inl ⟨fun v w h => h, ?_⟩
          intro a W hW hb hd K hK
          have b1 := hb 1 rfl
          go_simp
          exact hK _ _ (World.grownBy.refl _ _) rfl
        · refine Or.inl ⟨fun v w h => h, ?_⟩
          intro a W hW hb hd K hK
          have b5 := hb 5 rfl
          go_simp
          exact hK _ _ (World.grownBy.refl _ _) rfl
        · refine Or.inl ⟨fun v w h => h, ?_⟩
          intro a W hW hb hd K hK
          have b35 : a.tmps[35]?.getD undef = _ := hd ⟨18, .data⟩ (by simp) rfl
          have b36 : a.tmps[36]?.getD undef = _ := hd ⟨19, .data⟩ (by simp) rfl
          go_simp
          exact hK _ _ (World.grownBy.refl _ _) rfl
        · refine Or.inl ⟨fun v w h => h, ?_⟩
          intro a W hW hb hd K hK
          have b37 : a.tmps[37]?.getD undef = _ := hd ⟨20, .data⟩ (by simp) rfl
          go_simp
          exact hK _ _ (World.grownBy.refl _ _) (by first | rfl | (rw [add_zero]; rfl) | (simp [add_zero]; rfl))
        · refine Or.inl ⟨fun v w h => h, ?_⟩
          intro a W hW hb hd K hK
          have b38 : a.tmps[38]?.getD undef = _ := hd ⟨21, .data⟩ (by simp) rfl
          have q1 : W.cell? ⟨(a2.add (k * 33)).block, (a2.add (k * 33)).off + 32, none⟩ = some (.slice y.A y.n y.c) := HY.out W hW 32 _ (bl_last (by rw [HyD.out]; exact HD.out))
          go_simp
          exact hK _ _ (World.grownBy.refl _ _) rfl
        · refine Or.inl ⟨fun v w h => h, ?_⟩
          intro a W hW hb hd K hK
          have b39 : a.tmps[39]?.getD undef = _ := hd ⟨22, .data⟩ (by simp) rfl
          have q1 : (convert 36 9 (.slice y.A y.n y.c)).run Tryz.prog W = .ok (.string s) W := by rw [HS.out, HE.out]; exact conv_b (HBY.out W hW).rd
          go_simp
          exact hK _ _ (World.grownBy.refl _ _) rfl
        · refine Or.inl ⟨fun v w h => h, ?_⟩
          intro a W hW hb hd K hK
          have b34 : a.tmps[34]?.getD undef = _ := hd ⟨17, .data⟩ (by simp) rfl
          have b40 : a.tmps[40]?.getD undef = _ := hd ⟨23, .data⟩ (by simp) rfl
          have q1 : (s.toList == s.toList) = true := by simp
          have q2 : (s.data.toList == s.data.toList) = true := by simp
          go_simp
          exact hK _ _ (World.grownBy.refl _ _) rfl
      case fin =>
        intro vs V hV hv
        have e11 : vs 11 = _ := hv 11 (by decide)
        have e24 : vs 24 = _ := hv 24 (by decide)
        clear hv hI
        simp only [putAll, List.drop_succ_cons, List.drop_zero, e11, e24, Act.put, List.setIfInBounds_toArray, List.set_cons_succ, List.set_cons_zero]
        clear e11 e24
        go_wp2_with fail
        exact ⟨⟨k + 1, by omega, by go_num, hV⟩, by simp [intOf]; omega⟩
    · have d1 : decide ((k : Int) < (n : Int)) = false := by simp; omega
      go_wp2_with fail
      go_ret
      exact ⟨rfl, (hI.at_ 2 rfl : _ ∧ _).1⟩

set_option maxHeartbeats 1600000 in
theorem light_any (w : World) (B : Nat) (A : Option Addr) (n c : Nat) (l : List Bl) (hl : Blobs w B A n l) (hB : B ≤ w.heap.size) (hn : n ≤ 140737488355000) (hbig : ∀ x ∈ l, x.n ≤ 140737488355000) :
    Calls Tryz.prog 7 #[.slice A n c] w fun e w' => (e = .returned (.bool false) ∨ (e = .returned (.bool true) ∧ n ≤ 300)) ∧ Below w.heap.size w w' := by
  have hR : All w [.low (.blobs B A n l), .kept w w.heap.size] := ⟨⟨hl, hB⟩, ⟨Below.refl _ _, Nat.le_refl _⟩, trivial⟩
  have HN := Lib.hid hl.len
  have HBIG := Lib.hid hbig
  clear hl hbig
  go_enter Tryz.func7, Tryz.ntmps7
  go_upto_region 1 with (fail)
  have hI0 := hR
  clear hR
  by_cases h3 : 300 < n
  · have d1 : decide (300 < (n : Int)) = true := by simp; omega
    have d2 : decide (300 < n) = true := by simp; omega
    clear h3
    go_wp2
    go_ret
    exact ⟨Or.inl rfl, (hI0.at_ 1 rfl : _ ∧ _).1⟩
  have d1 : decide (300 < (n : Int)) = false := by simp; omega
  have d2 : decide (300 < n) = false := by simp; omega
  have hn3 : n ≤ 300 := by omega
  clear h3
  go_wp2
  go_loopw [3, 4] (fun m i wr => ∃ k q : Nat, k ≤ n ∧ i = .int .i64 k ∧ m = .int .i64 q ∧ q ≤ 300000 ∧ All wr [.low (.blobs B A n l), .kept w w.heap.size]) (fun _ i _ => n - (intOf i).toNat)
  case atStart => exact ⟨0, 0, by omega, rfl, rfl, by omega, hI0⟩
  case round =>
    clear hI0
    obtain ⟨k, q, hk, rfl, rfl, hq, hI⟩ := hrel
    by_cases hlt : k < n
    · have hkl : k < l.length := by rw [HN.out]; exact hlt
      have hbl := (hI.at_ 0 rfl : Blobs wr B A n l ∧ B ≤ wr.heap.size)
      obtain ⟨ad, rfl, -, hc⟩ := Els.elem hbl.1.els hkl
      have q1 : wr.cell? ⟨(ad.add (k * 33)).block, (ad.add (k * 33)).off + 32, none⟩ = some (.slice l[k].A l[k].n l[k].c) := hc 32 _ (bl_last (hbl.1.each _ (List.getElem_mem hkl)).d32)
      have q2 : wr.cell? ((ad.add (k * 33)).add 32) = some (.slice l[k].A l[k].n l[k].c) := q1
      have hxn := HBIG.out _ (List.getElem_mem hkl)
      clear hbl hc
      generalize l[k] = x at *
      have dd : decide ((k : Int) < (n : Int)) = true := by simp; omega
      have wk0 : (0 : Int) ≤ (k : Int) := by omega
      have wk1 : (k : Int) < (n : Int) := by omega
      have wk2 : ((k : Int)).toNat = k := by omega
      by_cases hx3 : 300000 < (x.n : Int)
      · have w1 : IntKind.i64.wrap ((q : Int) + 300000) = (q : Int) + 300000 := IntWalk.i64_in _ (by omega)
        have e1 : ((q + 300000 : Nat) : Int) = (q : Int) + 300000 := by omega
        by_cases h4 : 300000 < (q : Int) + 300000
        · have d5 : decide (300000 < (q : Int) + 300000) = true := decide_eq_true h4
          clear h4 e1
          go_wp2_with fail
          go_ret
          exact ⟨Or.inl rfl, (hI.at_ 1 rfl : _ ∧ _).1⟩
        · have d5 : decide (300000 < (q : Int) + 300000) = false := decide_eq_false h4
          have h5 : q + 300000 ≤ 300000 := by omega
          have HE1 := Lib.hid e1
          clear h4 e1
          go_wp2_with fail
          exact ⟨⟨k + 1, q + 300000, by omega, by go_num, by go_num, h5, hI⟩, by simp [intOf]; omega⟩
      · have w1 : IntKind.i64.wrap ((q : Int) + (x.n : Int)) = (q : Int) + (x.n : Int) := IntWalk.i64_in _ (by omega)
        have e1 : ((q + x.n : Nat) : Int) = (q : Int) + (x.n : Int) := by omega
        by_cases h4 : 300000 < (q : Int) + (x.n : Int)
        · have d5 : decide (300000 < (q : Int) + (x.n : Int)) = true := decide_eq_true h4
          clear h4 e1
          go_wp2_with fail
          go_ret
          exact ⟨Or.inl rfl, (hI.at_ 1 rfl : _ ∧ _).1⟩
        · have d5 : decide (300000 < (q : Int) + (x.n : Int)) = false := decide_eq_false h4
          have h5 : q + x.n ≤ 300000 := by omega
          have HE1 := Lib.hid e1
          clear h4 e1
          go_wp2_with fail
          exact ⟨⟨k + 1, q + x.n, by omega, by go_num, by go_num, h5, hI⟩, by simp [intOf]; omega⟩
    · have dd : decide ((k : Int) < (n : Int)) = false := by simp; omega
      go_wp2_with fail
      go_ret
      exact ⟨Or.inr ⟨rfl, hn3⟩, (hI.at_ 1 rfl : _ ∧ _).1⟩
end Go.Proofs.YtkcmaembpfakdaaGreatDoor
set_option linter.unusedSimpArgs false
set_option linter.unusedVariables false
set_option maxRecDepth 100000
namespace Go.Adm
open Go Go.RowKit
theorem sha_abc : (shaS [97, 98, 99]).head? = some 186 := by kernel_rfl
theorem put3_nil (d : List UInt8) : put3 [] d [97, 98, 99] = ([(d, [97, 98, 99])], d, 0) := by
  rw [put3_new (by decide) (by decide) rfl (by decide)]; rfl
theorem pr_one {l : List Bl} {d b : List UInt8} (h : l.map pr = [(d, b)]) : ∃ x, l = [x] ∧ x.d = d ∧ x.b = b := by
  cases l with
  | nil => cases h
  | cons x r =>
    cases r with
    | nil =>
      injection h with h1 h2
      exact ⟨x, rfl, congrArg Prod.fst h1, congrArg Prod.snd h1⟩
    | cons y r => injection h with h1 h2; cases h2
end Go.Adm
namespace Go.Proofs.YtkcmaembpfakdaaGreatDoor
open Go Go.RowKit Go.Adm

set_option maxHeartbeats 1600000 in
theorem awake_any (w : World) : Calls Tryz.prog 12 #[] w fun e w' => e = .returned (.bool true) ∧ Below w.heap.size w w' := by
  have hR : All w [.kept w w.heap.size] := ⟨⟨Below.refl _ _, Nat.le_refl _⟩, trivial⟩
  obtain ⟨d, hd⟩ : ∃ d, shaS [97, 98, 99] = d := ⟨_, rfl⟩
  have HD : Hid (d.length = 32) := Lib.hid (by rw [← hd]; exact shaS_len _)
  have HH : Hid (d.head? = some 186) := Lib.hid (by rw [← hd]; exact sha_abc)
  have HSD := Lib.hid hd
  clear hd
  go_enter Tryz.func12, Tryz.ntmps12
  have hcv := Lib.run_convert_bytes_const (P := Tryz.prog) w 36 5 #[.int .u8 97, .int .u8 98, .int .u8 99] 3 3 el_b8.ht Tryz.underlying5
  obtain ⟨W1, hW1⟩ : ∃ W1, W1 = w.alloc (.cells #[.int .u8 97, .int .u8 98, .int .u8 99] 5 ((#[.int .u8 97, .int .u8 98, .int .u8 99] : Array Value).size, (#[.int .u8 97, .int .u8 98, .int .u8 99] : Array Value).size + 1)) := ⟨_, rfl⟩
  have hA1 : All W1 [.kept w w.heap.size] := by rw [hW1]; exact hR.alloc _
  have hrd : Rd W1 W1.heap.size 1 (some ⟨w.heap.size, 0, none⟩) 3 (([97, 98, 99] : List UInt8).map bv) := by
    rw [hW1]
    refine ⟨rfl, fun _ => ⟨_, rfl, by simp, fun j u hu => ?_⟩⟩
    rw [add_lit, Nat.zero_add, World.cell?_alloc_mark]
    match j, hu with
    | 0, hu => exact hu
    | 1, hu => exact hu
    | 2, hu => exact hu
    | _ + 3, hu => cases hu
  have hpu := Put_any W1 W1.heap.size none (some ⟨w.heap.size, 0, none⟩) 0 0 3 3 [] d [97, 98, 99] Blobs.nil hrd HSD.out (by omega) (by omega) (Nat.le_refl _) (by decide) (Nat.le_refl _) (fun x hx => by cases hx)
  unfold PutPost at hpu
  rw [put3_nil] at hpu
  rw [hW1] at hpu
  clear hrd
  go_upto_region 1 with (fail)
  go_wp2_with fail
  refine hpu.mono ?_
  clear hpu hcv
  rintro e w2 ⟨A', n', c', l', rfl, hbl, hnc, hcm, hpr, hb2⟩
  rw [← hW1] at hb2
  obtain ⟨x, rfl, hxd, hxb⟩ := pr_one hpr
  have hn1 : n' = 1 := hbl.len.symm
  subst hn1
  have hA2 := hA1.call hb2
  have hA3 : All w2 [.low (.blobs w2.heap.size A' 1 [x]), .kept w w.heap.size] := ⟨⟨hbl, Nat.le_refl _⟩, hA2.at_ 0 rfl, trivial⟩
  have hwg : w.heap.size ≤ w2.heap.size := hA2.size_kept 0 rfl
  have hLK : Hid (lookB [x] d = some x) := Lib.hid (by unfold lookB; rw [List.find?_cons_of_pos (by simpa using hxd)])
  have HXB := Lib.hid hxb
  have hxn : Hid (x.n = 3) := Lib.hid (by have := (hbl.each x (List.mem_singleton.2 rfl)).len; rw [hxb] at this; exact this.symm)
  clear hA1 hA2 hb2 hW1 hbl hpr hR hxd hxb
  obtain ⟨g2, hg2⟩ : ∃ g2, g2 = w2.heap.size := ⟨_, rfl⟩
  rw [← hg2] at hA3
  have hwg2 : w.heap.size ≤ g2 := by omega
  have hzr : ∀ W : World, (zeroValue 32).run Tryz.prog W = .ok (.agg (z32.map bv).toArray) W := fun W => by kernel_rfl
  go_upto_region 2 with (refine wl_store_at (hA3.new (l := z32.map bv) _ 32 hg2 rfl) 0 rfl 32 (.tmp 2) (.tmp 11) rfl g2 _ _ (d.map bv) rfl (by rw [hg2]; rfl) rfl (by rw [List.length_map, HD.out]; rfl) (by rw [List.length_map, HD.out]; kernel_rfl) (bv_one _) (by simp [Apart, Res.apart, Low.blobs] <;> omega) ?_; intro W3 hW3 hs3; simp only [List.set_cons_zero] at hW3)
  simp only [← hg2]
  clear hA3 hs3 hg2
  have hge := Get_any W3 g2 A' 1 c' [x] d (hW3.at_ 1 rfl : Blobs W3 g2 A' 1 [x] ∧ _).1 HD.out (by omega) (hW3.at_ 1 rfl : _ ∧ g2 ≤ W3.heap.size).2 (fun y hy => by rw [List.mem_singleton.1 hy, hxn.out]; omega)
  rw [hLK.out] at hge
  go_wp2_with (refine wl_load_any rfl 32 (.tmp 2) rfl ⟨g2, 0, none⟩ rfl (d.map bv) _ (Cells.sub (hW3.at_ 0 rfl) 0 (fun j u h => by rwa [Nat.zero_add])) Tryz.underlying32 rfl (by rw [List.length_map, HD.out]; kernel_rfl) ?_)
  refine hge.mono ?_
  clear hge
  rintro e w4 ⟨A5, n5, c5, rfl, hb4, hr4⟩
  have hW4 := hW3.call hb4
  have hcv : (convert 36 9 (.slice A5 n5 c5)).run Tryz.prog w4 = .ok (.string ⟨#[97, 98, 99]⟩) w4 := by
    have h := conv_b (c := c5) hr4
    rw [show dataB (some x) = [97, 98, 99] from HXB.out] at h
    exact h
  have hc0 : w4.cell? ⟨g2, 0, none⟩ = some (.int .u8 186) := by
    have h0 : 0 < d.length := by rw [HD.out]; decide
    have h1 := Cells.cell (hW4.at_ 0 rfl : Cells w4 g2 _ _) (i := 0) (by rw [List.length_map]; exact h0)
    rw [h1, List.getElem_map]
    have h2 := HH.out
    rw [List.head?_eq_getElem?, List.getElem?_eq_getElem h0] at h2
    rw [Option.some.inj h2]; rfl
  clear hb4 hr4 hW3
  go_wp2_with fail
  go_ret
  exact ⟨rfl, (hW4.at_ 2 rfl : _ ∧ _).1⟩
end Go.Proofs.YtkcmaembpfakdaaGreatDoor

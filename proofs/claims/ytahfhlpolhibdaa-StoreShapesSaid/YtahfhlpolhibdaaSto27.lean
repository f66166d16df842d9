/- Root and Audit on both sides, at any list of blobs. -/
import Derived.Test.YtahfhlpolhibdaaSto26
set_option linter.unusedSimpArgs false
set_option linter.unusedVariables false
set_option maxRecDepth 100000
namespace Go.Adm
open Go Go.RowKit
def dsB (l : List Bl) : List (List UInt8) := l.map (·.d)
theorem dsB_snoc (l : List Bl) (x : Bl) : dsB (l ++ [x]) = dsB l ++ [x.d] := by simp [dsB]
/-- the digests that are not those of their data -/
def audS (l : List Bl) : List (List UInt8) := (l.filter fun x => decide (shaS x.b ≠ x.d)).map (·.d)
theorem audS_bad {l : List Bl} {x : Bl} (h : shaS x.b ≠ x.d) : audS (l ++ [x]) = audS l ++ [x.d] := by
  unfold audS; rw [List.filter_append, List.map_append]; simp [h]
theorem audS_good {l : List Bl} {x : Bl} (h : shaS x.b = x.d) : audS (l ++ [x]) = audS l := by
  unfold audS; rw [List.filter_append, List.map_append]; simp [h]
theorem audS_mem {l : List Bl} {d : List UInt8} (h : d ∈ audS l) : ∃ x, x ∈ l ∧ x.d = d := by
  unfold audS at h
  obtain ⟨x, hx, rfl⟩ := List.mem_map.1 h
  exact ⟨x, (List.mem_filter.1 hx).1, rfl⟩
end Go.Adm
namespace Go.Proofs.Ytahfhlpolhibdaa
open Go Go.RowKit Go.Adm

set_option maxHeartbeats 3200000 in
theorem Root_any (w : World) (B : Nat) (A : Option Addr) (n c : Nat) (l : List Bl) (hl : Blobs w B A n l) (hn2 : n ≤ 1000000) (hB : B ≤ w.heap.size) (hbig : ∀ x ∈ l, x.n ≤ 140737488355000) :
    Calls Try.prog 24 #[.slice A n c] w fun e w' => e = .returned (.agg ((treeS (dsB l)).map bv).toArray) ∧ Below w.heap.size w w' := by
  have hR : All w [.low (.blobs B A n l), .kept w w.heap.size] := ⟨⟨hl, hB⟩, ⟨Below.refl _ _, Nat.le_refl _⟩, trivial⟩
  have HN := Lib.hid hl.len
  have HBIG := Lib.hid hbig
  have H32 : Hid (∀ y ∈ dsB l, y.length = 32) := Lib.hid (fun y hy => by
    obtain ⟨x, hx, rfl⟩ := List.mem_map.1 hy
    exact (hl.each x hx).d32)
  have hzr := zero_bl
  have hzd := zero_dg
  clear hl hbig
  go_enter Try.func24, Try.ntmps24
  go_upto_region 1 with (fail)
  refine wp_gen (hR.new (l := z32.map bv) _ 31 rfl rfl) ?_
  intro W1 hW1
  have hz1 : w.heap.size < W1.heap.size := Cells.lt (hW1.at_ 0 rfl)
  have hI0 : All W1 [.own (w.heap.size + 1) 31 32 none 0 0 (dvs []).flatten, .cells w.heap.size 31 (z32.map bv), .low (.blobs B A n l), .kept w w.heap.size] := ⟨Go.Adm.Own.nil _ _ _ _, hW1⟩
  have hbs : w.heap.size + 1 ≤ W1.heap.size := hz1
  clear hR hW1 hz1
  go_wp2
  go_loopw [3, 8] (fun o i wr => ∃ (k : Nat) (A' : Option Addr) (c' : Nat) (es : List (List UInt8)), k ≤ n ∧ i = .int .i64 k ∧ o = .slice A' es.length c' ∧ w.heap.size + 1 ≤ wr.heap.size ∧ Hid (es = dsB (l.take k) ∧ es.length ≤ k) ∧ All wr [.own (w.heap.size + 1) 31 32 A' es.length c' (dvs es).flatten, .cells w.heap.size 31 (z32.map bv), .low (.blobs B A n l), .kept w w.heap.size]) (fun _ i _ => n - (intOf i).toNat)
  case atStart => exact ⟨0, none, 0, [], by omega, rfl, rfl, hbs, Lib.hid ⟨rfl, Nat.le_refl _⟩, hI0⟩
  case round =>
    clear hI0 hbs
    obtain ⟨k, A', c', es, hk, rfl, rfl, hbs, HE, hI⟩ := hrel
    by_cases hlt : k < n
    · have hkl : k < l.length := by rw [HN.out]; exact hlt
      have hbl := (hI.at_ 2 rfl : Blobs wr B A n l ∧ B ≤ wr.heap.size)
      obtain ⟨ad, rfl, hadB, hc⟩ := Els.elem hbl.1.els hkl
      have HX : Hid (∀ W, Blobs W B (some ad) n l → ∀ q s, (blC l[k])[q]? = some s → W.cell? ((ad.add (k * 33)).add q) = some s) := Lib.hid (fun W hW => by
        obtain ⟨ad', e, _, hc⟩ := Els.elem hW.els hkl
        obtain rfl := Option.some.inj e
        exact hc)
      have HBX : Hid (∀ W, Blobs W B (some ad) n l → BlOk W B l[k]) := Lib.hid (fun W hW => hW.each _ (List.getElem_mem hkl))
      have hx := Lib.hid (hbl.1.each _ (List.getElem_mem hkl)).d32
      have hxn := Lib.hid (HBIG.out _ (List.getElem_mem hkl))
      have HTK : Hid (l.take (k + 1) = l.take k ++ [l[k]]) := Lib.hid (List.take_succ_eq_append_getElem hkl)
      have hec := HE.out.2
      clear hc hbl
      generalize l[k] = x at *
      have d1 : decide ((k : Int) < (n : Int)) = true := by simp; omega
      have wk0 : (0 : Int) ≤ (k : Int) := by omega
      have wk1 : (k : Int) < (n : Int) := by omega
      have wk2 : ((k : Int)).toNat = k := by omega
      have hBw : B ≤ wr.heap.size := (hI.at_ 2 rfl : Blobs wr B (some ad) n l ∧ B ≤ wr.heap.size).2
      have hne := (hI.at_ 0 rfl : Go.Adm.Own wr (w.heap.size + 1) 31 32 A' es.length c' _).ne
      have HOB : Hid (∀ q, (Value.slice A' es.length c').ownBlock = some q → q < wr.heap.size) := Lib.hid (fun q hq => ((hI.at_ 0 rfl : Go.Adm.Own wr (w.heap.size + 1) 31 32 A' es.length c' _).lt hq).2)
      obtain ⟨gx, hgx⟩ : ∃ gx, gx = wr.heap.size := ⟨_, rfl⟩
      rw [← hgx] at HOB
      have hne2 : (Value.slice A' es.length c').ownBlock ≠ some gx := by rw [hgx]; exact hne
      have HNE2 := Lib.hid hne2
      clear hne hne2
      go_upto_region 5 with (first
        | (refine wl_load_any rfl 52 (.tmp 10) rfl (ad.add (k * 33)) rfl (blC x) _ (HX.out wr (hI.at_ 2 rfl : Blobs wr B (some ad) n l ∧ _).1) Try.underlying52 rfl (by rw [blC_len hx.out]; kernel_rfl) ?_)
        | (refine wl_store_at (hI.new (l := blZ) _ 52 hgx rfl) 0 rfl 52 (.tmp 5) (.tmp 11) rfl gx _ _ (blC x) rfl (by rw [hgx]; rfl) rfl (by rw [blC_len hx.out]; rfl) (by rw [blC_len hx.out]; kernel_rfl) (blC_one x) ⟨fun g e => by { injection e with e; subst e; exact Or.inr HNE2.out }, by simp [Res.apart]; omega, by simp [Res.apart, Low.blobs]; omega, by simp [Res.apart]; omega, trivial⟩ ?_; intro W2 hW2 hs2; simp only [List.set_cons_zero] at hW2))
      simp only [← hgx]
      have hb2 : w.heap.size + 1 ≤ W2.heap.size := by simp at hs2; omega
      have hgB : B ≤ gx := by omega
      have hgw : w.heap.size + 1 ≤ gx := by omega
      have HAP : Hid (∀ q, w.heap.size + 1 ≤ q → (Value.slice A' es.length c').ownBlock = some q → Apart (some q) [.cells gx 52 (blC x), .cells w.heap.size 31 (z32.map bv), .low (.blobs B (some ad) n l), .kept w w.heap.size]) := Lib.hid (fun q hq hq2 => ⟨by have := HOB.out q hq2; simp [Res.apart]; omega, by simp [Res.apart]; omega, by simp [Res.apart, Low.blobs]; omega, by simp [Res.apart]; omega, trivial⟩)
      have HAPB : Hid (B ≤ w.heap.size + 1) := Lib.hid (by omega)
      clear hgx hI hs2
      have hV := hW2
      clear hW2
      go_wp2_with (first
        | (refine wl_load_any rfl 31 (.tmp 13) rfl ⟨gx, 0, none⟩ rfl (x.d.map bv) _ (Cells.sub (hV.at_ 0 rfl) 0 (bl_sub0 x)) Try.underlying31 rfl (by rw [List.length_map, hx.out]; kernel_rfl) ?_)
        | (refine wl_lit1 el_dg rfl (.tmp 14) rfl (x.d.map bv) rfl (by rw [List.length_map, hx.out]) (by decide) ?_)
        | (at_builtin; refine wl_app_at el_dg (hV.alloc _) 1 rfl (.tmp 12) (.tmp 15) rfl (w.heap.size + 1) _ _ _ _ rfl rfl (W2.heap.size + 1) _ 1 1 (x.d.map bv) rfl (Rd.lit W2 (x.d.map bv).toArray _ 1 (by rw [List.size_toArray, List.length_map, hx.out])) (bv_one _) (by omega) (by simp; omega) (fun q hq hq2 => HAP.out q hq hq2) ?_; intro A5 c5 w5 hI5 hs5; simp only [List.set_cons_succ, List.set_cons_zero] at hI5))
      have hb5 : w.heap.size + 1 ≤ w5.heap.size := by simp at hs5; omega
      have hI6 : All w5 [.own (w.heap.size + 1) 31 32 A5 (es ++ [x.d]).length c5 (dvs (es ++ [x.d])).flatten, .cells w.heap.size 31 (z32.map bv), .low (.blobs B (some ad) n l), .kept w w.heap.size] := ⟨(hI5.at_ 1 rfl : Go.Adm.Own w5 (w.heap.size + 1) 31 32 A5 _ c5 _).cast (by simp) (by simp [dvs]), hI5.2.2⟩
      have HE2 : Hid (es ++ [x.d] = dsB (l.take (k + 1)) ∧ (es ++ [x.d]).length ≤ k + 1) := Lib.hid ⟨by rw [HTK.out, dsB_snoc, HE.out.1], by have := HE.out.2; simp; omega⟩
      clear hI5 HE HTK HX HBX
      go_wp2_with fail
      exact ⟨⟨k + 1, A5, c5, es ++ [x.d], by omega, by go_num, by simp, hb5, HE2, hI6⟩, by simp [intOf]; omega⟩
    · obtain rfl : n = k := by omega
      have d1 : decide ((n : Int) < (n : Int)) = false := by simp
      have hes : es = dsB l := by rw [HE.out.1, List.take_of_length_le (by rw [HN.out]; exact Nat.le_refl _)]
      have hel := HE.out.2
      clear hlt
      subst hes
      have hO : Go.Adm.Own wr (w.heap.size + 1) 31 32 A' (dsB l).length c' _ := hI.at_ 0 rfl
      have hdg : Digs wr wr.heap.size A' (dsB l).length (dsB l) := ⟨Els.of hO (fun e he => by
        obtain ⟨y, hy, rfl⟩ := List.mem_map.1 he
        rw [List.length_map]; exact H32.out y hy) (dvs_len _), H32.out, rfl⟩
      have htr := Tree_any ((dsB l).length + 1) wr wr.heap.size A' (dsB l).length c' (dsB l) hdg (Nat.lt_succ_self _) (by omega) hO.cap.1 hO.cap.2 (Nat.le_refl _)
      have HTL : Hid ((treeS (dsB l)).length = 32) := Lib.hid (treeS_len _ (Nat.le_refl _) (by omega) H32.out)
      have HLT : Hid (∀ q, (Value.slice A' (dsB l).length c').ownBlock = some q → w.heap.size < q) := Lib.hid (fun q hq => (hO.lt hq).1)
      clear hO hdg HE
      generalize hrr : treeS (dsB l) = r at *
      have HRR := Lib.hid hrr
      clear hrr
      go_wp2_with fail
      refine htr.mono ?_
      clear htr
      rintro e w5 ⟨rfl, hb5⟩
      have hI5 := hI.call hb5
      clear hI hb5
      go_wp2_with (refine wl_store_at hI5 1 rfl 31 (.tmp 2) (.tmp 19) rfl w.heap.size _ _ (r.map bv) rfl rfl rfl (by rw [List.length_map, HTL.out]; rfl) (by rw [List.length_map, HTL.out]; kernel_rfl) (bv_one _) ⟨fun g e => by { injection e with e; left; omega }, by simp [Res.apart, Low.blobs]; omega, by simp [Res.apart], trivial⟩ ?_; intro w9 hI9 hs9)
      refine bodyPost_ret (v := .agg (r.map bv).toArray) ?_ rfl ⟨by rw [HRR.out], (hI9.at_ 3 rfl : _ ∧ _).1⟩
      exact results_cell_row rfl _ _ w.heap.size 31 (r.map bv).toArray (0, 0) _ rfl (hI9.at_ 1 rfl) Try.underlying31 rfl (by rw [List.size_toArray, List.length_map, HTL.out]; kernel_rfl)

set_option maxHeartbeats 3200000 in
theorem refRoot_any (w : World) (B : Nat) (A : Option Addr) (n c : Nat) (l : List Bl) (hl : Blobs w B A n l) (hn2 : n ≤ 1000000) (hB : B ≤ w.heap.size) (hbig : ∀ x ∈ l, x.n ≤ 140737488355000) :
    Calls Try.prog 25 #[.slice A n c] w fun e w' => e = .returned (.agg ((treeS (dsB l)).map bv).toArray) ∧ Below w.heap.size w w' := by
  have hR : All w [.low (.blobs B A n l), .kept w w.heap.size] := ⟨⟨hl, hB⟩, ⟨Below.refl _ _, Nat.le_refl _⟩, trivial⟩
  have HN := Lib.hid hl.len
  have HBIG := Lib.hid hbig
  have H32 : Hid (∀ y ∈ dsB l, y.length = 32) := Lib.hid (fun y hy => by
    obtain ⟨x, hx, rfl⟩ := List.mem_map.1 hy
    exact (hl.each x hx).d32)
  have hzr := zero_bl
  have hzd := zero_dg
  clear hl hbig
  go_enter Try.func25, Try.ntmps25
  go_upto_region 1 with (fail)
  refine wp_gen (hR.new (l := z32.map bv) _ 31 rfl rfl) ?_
  intro W1 hW1
  have hz1 : w.heap.size < W1.heap.size := Cells.lt (hW1.at_ 0 rfl)
  have hI0 : All W1 [.own (w.heap.size + 1) 31 32 none 0 0 (dvs []).flatten, .cells w.heap.size 31 (z32.map bv), .low (.blobs B A n l), .kept w w.heap.size] := ⟨Go.Adm.Own.nil _ _ _ _, hW1⟩
  have hbs : w.heap.size + 1 ≤ W1.heap.size := hz1
  clear hR hW1 hz1
  go_wp2
  go_loopw [3, 4] (fun o i wr => ∃ (k : Nat) (A' : Option Addr) (c' : Nat) (es : List (List UInt8)), k ≤ n ∧ i = .int .i64 k ∧ o = .slice A' es.length c' ∧ w.heap.size + 1 ≤ wr.heap.size ∧ Hid (es = dsB (l.take k) ∧ es.length ≤ k) ∧ All wr [.own (w.heap.size + 1) 31 32 A' es.length c' (dvs es).flatten, .cells w.heap.size 31 (z32.map bv), .low (.blobs B A n l), .kept w w.heap.size]) (fun _ i _ => n - (intOf i).toNat)
  case atStart => exact ⟨0, none, 0, [], by omega, rfl, rfl, hbs, Lib.hid ⟨rfl, Nat.le_refl _⟩, hI0⟩
  case round =>
    clear hI0 hbs
    obtain ⟨k, A', c', es, hk, rfl, rfl, hbs, HE, hI⟩ := hrel
    by_cases hlt : k < n
    · have hkl : k < l.length := by rw [HN.out]; exact hlt
      have hbl := (hI.at_ 2 rfl : Blobs wr B A n l ∧ B ≤ wr.heap.size)
      obtain ⟨ad, rfl, hadB, hc⟩ := Els.elem hbl.1.els hkl
      have HX : Hid (∀ W, Blobs W B (some ad) n l → ∀ q s, (blC l[k])[q]? = some s → W.cell? ((ad.add (k * 33)).add q) = some s) := Lib.hid (fun W hW => by
        obtain ⟨ad', e, _, hc⟩ := Els.elem hW.els hkl
        obtain rfl := Option.some.inj e
        exact hc)
      have HBX : Hid (∀ W, Blobs W B (some ad) n l → BlOk W B l[k]) := Lib.hid (fun W hW => hW.each _ (List.getElem_mem hkl))
      have hx := Lib.hid (hbl.1.each _ (List.getElem_mem hkl)).d32
      have hxn := Lib.hid (HBIG.out _ (List.getElem_mem hkl))
      have HTK : Hid (l.take (k + 1) = l.take k ++ [l[k]]) := Lib.hid (List.take_succ_eq_append_getElem hkl)
      have hec := HE.out.2
      clear hc hbl
      generalize l[k] = x at *
      have d1 : decide ((k : Int) < (n : Int)) = true := by simp; omega
      have wk0 : (0 : Int) ≤ (k : Int) := by omega
      have wk1 : (k : Int) < (n : Int) := by omega
      have wk2 : ((k : Int)).toNat = k := by omega
      have hBw : B ≤ wr.heap.size := (hI.at_ 2 rfl : Blobs wr B (some ad) n l ∧ B ≤ wr.heap.size).2
      have HAP : Hid (∀ q, w.heap.size + 1 ≤ q → Apart (some q) [.cells w.heap.size 31 (z32.map bv), .low (.blobs B (some ad) n l), .kept w w.heap.size]) := Lib.hid (fun q hq => ⟨by simp [Res.apart]; omega, by simp [Res.apart, Low.blobs]; omega, by simp [Res.apart]; omega, trivial⟩)
      have hV := hI
      clear hI
      have hb2 := hbs
      go_wp2_with (first
        | (refine wl_load_any rfl 31 (.tmp 15) rfl (ad.add (k * 33)) rfl (x.d.map bv) _ (fun q s hs => HX.out _ (hV.at_ 2 rfl : Blobs _ B (some ad) n l ∧ _).1 q s (by have := bl_sub0 x q s hs; rwa [Nat.zero_add] at this)) Try.underlying31 rfl (by rw [List.length_map, hx.out]; kernel_rfl) ?_)
        | (refine wl_lit1 el_dg rfl (.tmp 16) rfl (x.d.map bv) rfl (by rw [List.length_map, hx.out]) (by decide) ?_)
        | (at_builtin; refine wl_app_at el_dg (hV.alloc _) 0 rfl (.tmp 11) (.tmp 17) rfl (w.heap.size + 1) _ _ _ _ rfl rfl (wr.heap.size + 1) _ 1 1 (x.d.map bv) rfl (Rd.lit wr (x.d.map bv).toArray _ 1 (by rw [List.size_toArray, List.length_map, hx.out])) (bv_one _) (by omega) (by simp; omega) (fun q hq _ => HAP.out q hq) ?_; intro A5 c5 w5 hI5 hs5; simp only [List.set_cons_succ, List.set_cons_zero] at hI5))
      have hb5 : w.heap.size + 1 ≤ w5.heap.size := by simp at hs5; omega
      have hI6 : All w5 [.own (w.heap.size + 1) 31 32 A5 (es ++ [x.d]).length c5 (dvs (es ++ [x.d])).flatten, .cells w.heap.size 31 (z32.map bv), .low (.blobs B (some ad) n l), .kept w w.heap.size] := ⟨(hI5.at_ 0 rfl : Go.Adm.Own w5 (w.heap.size + 1) 31 32 A5 _ c5 _).cast (by simp) (by simp [dvs]), hI5.2⟩
      have HE2 : Hid (es ++ [x.d] = dsB (l.take (k + 1)) ∧ (es ++ [x.d]).length ≤ k + 1) := Lib.hid ⟨by rw [HTK.out, dsB_snoc, HE.out.1], by have := HE.out.2; simp; omega⟩
      clear hI5 HE HTK HX HBX
      go_wp2_with fail
      exact ⟨⟨k + 1, A5, c5, es ++ [x.d], by omega, by go_num, by simp, hb5, HE2, hI6⟩, by simp [intOf]; omega⟩
    · obtain rfl : n = k := by omega
      have d1 : decide ((n : Int) < (n : Int)) = false := by simp
      have hes : es = dsB l := by rw [HE.out.1, List.take_of_length_le (by rw [HN.out]; exact Nat.le_refl _)]
      have hel := HE.out.2
      clear hlt
      subst hes
      have hO : Go.Adm.Own wr (w.heap.size + 1) 31 32 A' (dsB l).length c' _ := hI.at_ 0 rfl
      have hdg : Digs wr wr.heap.size A' (dsB l).length (dsB l) := ⟨Els.of hO (fun e he => by
        obtain ⟨y, hy, rfl⟩ := List.mem_map.1 he
        rw [List.length_map]; exact H32.out y hy) (dvs_len _), H32.out, rfl⟩
      have htr := refTree_any ((dsB l).length + 1) wr wr.heap.size A' (dsB l).length c' (dsB l) hdg (Nat.lt_succ_self _) (by omega) hO.cap.1 hO.cap.2 (Nat.le_refl _)
      have HTL : Hid ((treeS (dsB l)).length = 32) := Lib.hid (treeS_len _ (Nat.le_refl _) (by omega) H32.out)
      have HLT : Hid (∀ q, (Value.slice A' (dsB l).length c').ownBlock = some q → w.heap.size < q) := Lib.hid (fun q hq => (hO.lt hq).1)
      clear hO hdg HE
      generalize hrr : treeS (dsB l) = r at *
      have HRR := Lib.hid hrr
      clear hrr
      go_wp2_with fail
      refine htr.mono ?_
      clear htr
      rintro e w5 ⟨rfl, hb5⟩
      have hI5 := hI.call hb5
      clear hI hb5
      go_wp2_with (refine wl_store_at hI5 1 rfl 31 (.tmp 2) (.tmp 20) rfl w.heap.size _ _ (r.map bv) rfl rfl rfl (by rw [List.length_map, HTL.out]; rfl) (by rw [List.length_map, HTL.out]; kernel_rfl) (bv_one _) ⟨fun g e => by { injection e with e; left; omega }, by simp [Res.apart, Low.blobs]; omega, by simp [Res.apart], trivial⟩ ?_; intro w9 hI9 hs9)
      refine bodyPost_ret (v := .agg (r.map bv).toArray) ?_ rfl ⟨by rw [HRR.out], (hI9.at_ 3 rfl : _ ∧ _).1⟩
      exact results_cell_row rfl _ _ w.heap.size 31 (r.map bv).toArray (0, 0) _ rfl (hI9.at_ 1 rfl) Try.underlying31 rfl (by rw [List.size_toArray, List.length_map, HTL.out]; kernel_rfl)

set_option maxHeartbeats 3200000 in
theorem Audit_any (w : World) (B : Nat) (A : Option Addr) (n c : Nat) (l : List Bl) (hl : Blobs w B A n l) (hn2 : n ≤ 1000000) (hB : B ≤ w.heap.size) (hbig : ∀ x ∈ l, x.n ≤ 140737488355000) :
    Calls Try.prog 18 #[.slice A n c] w fun e w' => ∃ A' c', e = .returned (.slice A' (audS l).length c') ∧ Digs w' w'.heap.size A' (audS l).length (audS l) ∧ (audS l).length ≤ c' ∧ c' ≤ maxLen ∧ Below w.heap.size w w' := by
  have hR : All w [.low (.blobs B A n l), .kept w w.heap.size] := ⟨⟨hl, hB⟩, ⟨Below.refl _ _, Nat.le_refl _⟩, trivial⟩
  have HN := Lib.hid hl.len
  have HBIG := Lib.hid hbig
  have H32 : Hid (∀ y ∈ audS l, y.length = 32) := Lib.hid (fun y hy => by
    obtain ⟨x, hx, rfl⟩ := audS_mem hy
    exact (hl.each x hx).d32)
  have hzr := zero_bl
  have hzd := zero_dg
  clear hl hbig
  go_enter Try.func18, Try.ntmps18
  go_upto_region 1 with (fail)
  have hI0 : All w [.own (w.heap.size) 31 32 none 0 0 (dvs []).flatten, .low (.blobs B A n l), .kept w w.heap.size] := ⟨Go.Adm.Own.nil _ _ _ _, hR⟩
  have hbs : w.heap.size ≤ w.heap.size := Nat.le_refl _
  clear hR
  go_wp2
  go_loopw [3, 8] (fun o i wr => ∃ (k : Nat) (A' : Option Addr) (c' : Nat) (es : List (List UInt8)), k ≤ n ∧ i = .int .i64 k ∧ o = .slice A' es.length c' ∧ w.heap.size ≤ wr.heap.size ∧ Hid (es = audS (l.take k) ∧ es.length ≤ k) ∧ All wr [.own (w.heap.size) 31 32 A' es.length c' (dvs es).flatten, .low (.blobs B A n l), .kept w w.heap.size]) (fun _ i _ => n - (intOf i).toNat)
  case atStart => exact ⟨0, none, 0, [], by omega, rfl, rfl, hbs, Lib.hid ⟨rfl, Nat.le_refl _⟩, hI0⟩
  case round =>
    clear hI0 hbs
    obtain ⟨k, A', c', es, hk, rfl, rfl, hbs, HE, hI⟩ := hrel
    by_cases hlt : k < n
    · have hkl : k < l.length := by rw [HN.out]; exact hlt
      have hbl := (hI.at_ 1 rfl : Blobs wr B A n l ∧ B ≤ wr.heap.size)
      obtain ⟨ad, rfl, hadB, hc⟩ := Els.elem hbl.1.els hkl
      have HX : Hid (∀ W, Blobs W B (some ad) n l → ∀ q s, (blC l[k])[q]? = some s → W.cell? ((ad.add (k * 33)).add q) = some s) := Lib.hid (fun W hW => by
        obtain ⟨ad', e, _, hc⟩ := Els.elem hW.els hkl
        obtain rfl := Option.some.inj e
        exact hc)
      have HBX : Hid (∀ W, Blobs W B (some ad) n l → BlOk W B l[k]) := Lib.hid (fun W hW => hW.each _ (List.getElem_mem hkl))
      have hx := Lib.hid (hbl.1.each _ (List.getElem_mem hkl)).d32
      have hxn := Lib.hid (HBIG.out _ (List.getElem_mem hkl))
      have HTK : Hid (l.take (k + 1) = l.take k ++ [l[k]]) := Lib.hid (List.take_succ_eq_append_getElem hkl)
      have hec := HE.out.2
      clear hc hbl
      generalize l[k] = x at *
      have d1 : decide ((k : Int) < (n : Int)) = true := by simp; omega
      have wk0 : (0 : Int) ≤ (k : Int) := by omega
      have wk1 : (k : Int) < (n : Int) := by omega
      have wk2 : ((k : Int)).toNat = k := by omega
      have hBw : B ≤ wr.heap.size := (hI.at_ 1 rfl : Blobs wr B (some ad) n l ∧ B ≤ wr.heap.size).2
      have hne := (hI.at_ 0 rfl : Go.Adm.Own wr (w.heap.size) 31 32 A' es.length c' _).ne
      have HOB : Hid (∀ q, (Value.slice A' es.length c').ownBlock = some q → q < wr.heap.size) := Lib.hid (fun q hq => ((hI.at_ 0 rfl : Go.Adm.Own wr (w.heap.size) 31 32 A' es.length c' _).lt hq).2)
      obtain ⟨gx, hgx⟩ : ∃ gx, gx = wr.heap.size := ⟨_, rfl⟩
      rw [← hgx] at HOB
      have hne2 : (Value.slice A' es.length c').ownBlock ≠ some gx := by rw [hgx]; exact hne
      have HNE2 := Lib.hid hne2
      clear hne hne2
      go_upto_region 5 with (first
        | (refine wl_load_any rfl 52 (.tmp 10) rfl (ad.add (k * 33)) rfl (blC x) _ (HX.out wr (hI.at_ 1 rfl : Blobs wr B (some ad) n l ∧ _).1) Try.underlying52 rfl (by rw [blC_len hx.out]; kernel_rfl) ?_)
        | (refine wl_store_at (hI.new (l := blZ) _ 52 hgx rfl) 0 rfl 52 (.tmp 5) (.tmp 11) rfl gx _ _ (blC x) rfl (by rw [hgx]; rfl) rfl (by rw [blC_len hx.out]; rfl) (by rw [blC_len hx.out]; kernel_rfl) (blC_one x) ⟨fun g e => by { injection e with e; subst e; exact Or.inr HNE2.out }, by simp [Res.apart, Low.blobs]; omega, by simp [Res.apart]; omega, trivial⟩ ?_; intro W2 hW2 hs2; simp only [List.set_cons_zero] at hW2))
      simp only [← hgx]
      have hb2 : w.heap.size ≤ W2.heap.size := by simp at hs2; omega
      have hgB : B ≤ gx := by omega
      have hgw : w.heap.size ≤ gx := by omega
      have HAP : Hid (∀ q, w.heap.size ≤ q → (Value.slice A' es.length c').ownBlock = some q → Apart (some q) [.cells gx 52 (blC x), .low (.blobs B (some ad) n l), .kept w w.heap.size]) := Lib.hid (fun q hq hq2 => ⟨by have := HOB.out q hq2; simp [Res.apart]; omega, by simp [Res.apart, Low.blobs]; omega, by simp [Res.apart]; omega, trivial⟩)
      have HAPB : Hid (B ≤ w.heap.size) := Lib.hid (by omega)
      clear hgx hI hs2
      have HLAST : Hid (∀ W, Cells W gx 52 (blC x) → W.cell? ⟨gx, 32, none⟩ = some (.slice x.A x.n x.c)) := Lib.hid (fun W hW => by
        have h1 := bl_last hx.out
        have h2 := (List.getElem?_eq_some_iff.1 h1).1
        rw [Cells.cell hW h2]
        rw [List.getElem?_eq_getElem h2] at h1
        exact h1)
      obtain ⟨s, hs⟩ : ∃ s, shaS x.b = s := ⟨_, rfl⟩
      have HS32 : Hid (s.length = 32) := Lib.hid (by rw [← hs]; exact shaS_len _)
      have HSS := Lib.hid hs
      clear hs
      refine wp_region_hops 5 [12, 13, 14, 15, 16] [.cells gx 52 (blC x), .own (w.heap.size) 31 32 A' es.length c' (dvs es).flatten, .low (.blobs B (some ad) n l), .kept w w.heap.size]
        [.eq (.pointer (some ⟨gx, 32, none⟩)), .eq (.slice x.A x.n x.c), .eq (.agg (s.map bv).toArray), .eq (.pointer (some ⟨gx, 0, none⟩)), .eq (.agg (x.d.map bv).toArray)]
        (by kernel_rfl) (by kernel_rfl) hW2 rfl ?hops ?fin
      case hops =>
        refine ⟨?_, ?_, ?_, ?_, ?_, trivial⟩
        · intro a W hW hb hd K hK
          have b5 := hb 5 rfl
          go_simp
          exact hK _ _ (World.grownBy.refl _ _) (by first | rfl | (rw [add_zero]; rfl) | (simp [add_zero]; rfl))
        · intro a W hW hb hd K hK
          have b12 : a.tmps[12]?.getD undef = _ := hd ⟨0, .data⟩ (by simp) rfl
          have q1 : W.cell? ⟨gx, 32, none⟩ = some (.slice x.A x.n x.c) := HLAST.out W (hW.at_ 0 rfl)
          go_simp
          exact hK _ _ (World.grownBy.refl _ _) rfl
        · intro a W hW hb hd K hK
          have b13 : a.tmps[13]?.getD undef = _ := hd ⟨1, .data⟩ (by simp) rfl
          have hbx := HBX.out W (hW.at_ 2 rfl : Blobs W B (some ad) n l ∧ B ≤ W.heap.size).1
          go_simp
          refine (ShaSum_any W B x.A x.n x.c x.b hbx.rd (hW.at_ 2 rfl : Blobs W B (some ad) n l ∧ B ≤ W.heap.size).2 (by have := hxn.out; omega) hbx.nc hbx.cm).mono ?_
          rintro e w' ⟨rfl, hb'⟩
          rw [HSS.out]
          exact hK _ _ (grown_of_below hb') rfl
        · intro a W hW hb hd K hK
          have b5 := hb 5 rfl
          go_simp
          exact hK _ _ (World.grownBy.refl _ _) (by first | rfl | (rw [add_zero]; rfl) | (simp [add_zero]; rfl))
        · intro a W hW hb hd K hK
          have b15 : a.tmps[15]?.getD undef = _ := hd ⟨3, .data⟩ (by simp) rfl
          refine wp_load_any 31 (.tmp 15) rfl ⟨gx, 0, none⟩ (show a.eval (.tmp 15) = _ from by simp only [Act.eval, Array.getD_eq_getD_getElem?]; exact b15) (x.d.map bv) _ (Cells.sub (hW.at_ 0 rfl) 0 (bl_sub0 x)) Try.underlying31 rfl (by rw [List.length_map, hx.out]; kernel_rfl) ?_
          exact hK _ _ (World.grownBy.refl _ _) rfl
      case fin =>
        intro vs V hV hv
        have e2 : vs 2 = _ := hv 2 (by decide)
        have e4 : vs 4 = _ := hv 4 (by decide)
        clear hv
        simp only [putAll, List.drop_succ_cons, List.drop_zero, e2, e4, Act.put, List.setIfInBounds_toArray, List.set_cons_succ, List.set_cons_zero]
        clear e2 e4
        have hbV : w.heap.size ≤ V.heap.size := Nat.le_trans (Nat.le_refl _) (hV.at_ 3 rfl : _ ∧ w.heap.size ≤ V.heap.size).2
        clear hW2
        have q1 := fun W => eqIn_dg W s x.d HS32.out hx.out
        by_cases hsx : s = x.d
        · rw [decide_eq_true hsx] at q1
          have HE2 : Hid (es = audS (l.take (k + 1)) ∧ es.length ≤ k + 1) := Lib.hid ⟨by rw [HTK.out, audS_good (by rw [HSS.out]; exact hsx), HE.out.1], by have := HE.out.2; omega⟩
          clear hsx
          go_wp2_with fail
          exact ⟨⟨k + 1, A', c', es, by omega, by go_num, rfl, hbV, HE2, hV.2⟩, by simp [intOf]; omega⟩
        · rw [decide_eq_false hsx] at q1
          have HSX : Hid (shaS x.b ≠ x.d) := Lib.hid (by rw [HSS.out]; exact hsx)
          clear hsx
          go_wp2_with (first
            | (refine wl_load_any rfl 31 (.tmp 19) rfl ⟨gx, 0, none⟩ rfl (x.d.map bv) _ (Cells.sub (hV.at_ 0 rfl) 0 (bl_sub0 x)) Try.underlying31 rfl (by rw [List.length_map, hx.out]; kernel_rfl) ?_)
            | (refine wl_lit1 el_dg rfl (.tmp 20) rfl (x.d.map bv) rfl (by rw [List.length_map, hx.out]) (by decide) ?_)
            | (at_builtin; refine wl_app_at el_dg (hV.alloc _) 1 rfl (.tmp 18) (.tmp 21) rfl (w.heap.size) _ _ _ _ rfl rfl (V.heap.size + 1) _ 1 1 (x.d.map bv) rfl (Rd.lit V (x.d.map bv).toArray _ 1 (by rw [List.size_toArray, List.length_map, hx.out])) (bv_one _) (by omega) (by simp; omega) (fun q hq hq2 => HAP.out q hq hq2) ?_; intro A5 c5 w5 hI5 hs5; simp only [List.set_cons_succ, List.set_cons_zero] at hI5))
          have hb5 : w.heap.size ≤ w5.heap.size := by simp at hs5; omega
          have hI6 : All w5 [.own (w.heap.size) 31 32 A5 (es ++ [x.d]).length c5 (dvs (es ++ [x.d])).flatten, .low (.blobs B (some ad) n l), .kept w w.heap.size] := ⟨(hI5.at_ 1 rfl : Go.Adm.Own w5 (w.heap.size) 31 32 A5 _ c5 _).cast (by simp) (by simp [dvs]), hI5.2.2⟩
          have HE2 : Hid (es ++ [x.d] = audS (l.take (k + 1)) ∧ (es ++ [x.d]).length ≤ k + 1) := Lib.hid ⟨by rw [HTK.out, audS_bad HSX.out, HE.out.1], by have := HE.out.2; simp; omega⟩
          clear hI5 HE HTK HX HBX
          go_wp2_with fail
          exact ⟨⟨k + 1, A5, c5, es ++ [x.d], by omega, by go_num, by simp, hb5, HE2, hI6⟩, by simp [intOf]; omega⟩
    · obtain rfl : n = k := by omega
      have d1 : decide ((n : Int) < (n : Int)) = false := by simp
      have hes : es = audS l := by rw [HE.out.1, List.take_of_length_le (by rw [HN.out]; exact Nat.le_refl _)]
      have hel := HE.out.2
      clear hlt
      subst hes
      have hO : Go.Adm.Own wr (w.heap.size) 31 32 A' (audS l).length c' _ := hI.at_ 0 rfl
      have hdg : Digs wr wr.heap.size A' (audS l).length (audS l) := ⟨Els.of hO (fun e he => by
        obtain ⟨y, hy, rfl⟩ := List.mem_map.1 he
        rw [List.length_map]; exact H32.out y hy) (dvs_len _), H32.out, rfl⟩
      have HD := Lib.hid hdg
      have HO := Lib.hid hO.cap
      clear hO hdg HE
      go_wp2_with fail
      go_ret
      exact ⟨A', c', rfl, HD.out, HO.out.1, HO.out.2, (hI.at_ 2 rfl : _ ∧ _).1⟩

set_option maxHeartbeats 3200000 in
theorem refAudit_any (w : World) (B : Nat) (A : Option Addr) (n c : Nat) (l : List Bl) (hl : Blobs w B A n l) (hn2 : n ≤ 1000000) (hB : B ≤ w.heap.size) (hbig : ∀ x ∈ l, x.n ≤ 140737488355000) :
    Calls Try.prog 23 #[.slice A n c] w fun e w' => ∃ A' c', e = .returned (.slice A' (audS l).length c') ∧ Digs w' w'.heap.size A' (audS l).length (audS l) ∧ (audS l).length ≤ c' ∧ c' ≤ maxLen ∧ Below w.heap.size w w' := by
  have hR : All w [.low (.blobs B A n l), .kept w w.heap.size] := ⟨⟨hl, hB⟩, ⟨Below.refl _ _, Nat.le_refl _⟩, trivial⟩
  have HN := Lib.hid hl.len
  have HBIG := Lib.hid hbig
  have H32 : Hid (∀ y ∈ audS l, y.length = 32) := Lib.hid (fun y hy => by
    obtain ⟨x, hx, rfl⟩ := audS_mem hy
    exact (hl.each x hx).d32)
  have hzr := zero_bl
  have hzd := zero_dg
  clear hl hbig
  go_enter Try.func23, Try.ntmps23
  go_upto_region 1 with (fail)
  have hI0 : All w [.own (w.heap.size) 31 32 none 0 0 (dvs []).flatten, .low (.blobs B A n l), .kept w w.heap.size] := ⟨Go.Adm.Own.nil _ _ _ _, hR⟩
  have hbs : w.heap.size ≤ w.heap.size := Nat.le_refl _
  clear hR
  go_wp2
  go_loopw [3, 4] (fun o i wr => ∃ (k : Nat) (A' : Option Addr) (c' : Nat) (es : List (List UInt8)), k ≤ n ∧ i = .int .i64 k ∧ o = .slice A' es.length c' ∧ w.heap.size ≤ wr.heap.size ∧ Hid (es = audS (l.take k) ∧ es.length ≤ k) ∧ All wr [.own (w.heap.size) 31 32 A' es.length c' (dvs es).flatten, .low (.blobs B A n l), .kept w w.heap.size]) (fun _ i _ => n - (intOf i).toNat)
  case atStart => exact ⟨0, none, 0, [], by omega, rfl, rfl, hbs, Lib.hid ⟨rfl, Nat.le_refl _⟩, hI0⟩
  case round =>
    clear hI0 hbs
    obtain ⟨k, A', c', es, hk, rfl, rfl, hbs, HE, hI⟩ := hrel
    by_cases hlt : k < n
    · have hkl : k < l.length := by rw [HN.out]; exact hlt
      have hbl := (hI.at_ 1 rfl : Blobs wr B A n l ∧ B ≤ wr.heap.size)
      obtain ⟨ad, rfl, hadB, hc⟩ := Els.elem hbl.1.els hkl
      have HX : Hid (∀ W, Blobs W B (some ad) n l → ∀ q s, (blC l[k])[q]? = some s → W.cell? ((ad.add (k * 33)).add q) = some s) := Lib.hid (fun W hW => by
        obtain ⟨ad', e, _, hc⟩ := Els.elem hW.els hkl
        obtain rfl := Option.some.inj e
        exact hc)
      have HBX : Hid (∀ W, Blobs W B (some ad) n l → BlOk W B l[k]) := Lib.hid (fun W hW => hW.each _ (List.getElem_mem hkl))
      have hx := Lib.hid (hbl.1.each _ (List.getElem_mem hkl)).d32
      have hxn := Lib.hid (HBIG.out _ (List.getElem_mem hkl))
      have HTK : Hid (l.take (k + 1) = l.take k ++ [l[k]]) := Lib.hid (List.take_succ_eq_append_getElem hkl)
      have hec := HE.out.2
      clear hc hbl
      generalize l[k] = x at *
      have d1 : decide ((k : Int) < (n : Int)) = true := by simp; omega
      have wk0 : (0 : Int) ≤ (k : Int) := by omega
      have wk1 : (k : Int) < (n : Int) := by omega
      have wk2 : ((k : Int)).toNat = k := by omega
      have hBw : B ≤ wr.heap.size := (hI.at_ 1 rfl : Blobs wr B (some ad) n l ∧ B ≤ wr.heap.size).2
      have HAP : Hid (∀ q, w.heap.size ≤ q → Apart (some q) [.low (.blobs B (some ad) n l), .kept w w.heap.size]) := Lib.hid (fun q hq => ⟨by simp [Res.apart, Low.blobs]; omega, by simp [Res.apart]; omega, trivial⟩)
      go_upto_region 5 with (fail)
      have hb2 := hbs
      obtain ⟨s, hs⟩ : ∃ s, shaS x.b = s := ⟨_, rfl⟩
      have HS32 : Hid (s.length = 32) := Lib.hid (by rw [← hs]; exact shaS_len _)
      have HSS := Lib.hid hs
      clear hs
      refine wp_region_hops 11 [11, 12, 13, 14, 15, 16, 17, 18, 19, 20, 21] [.own (w.heap.size) 31 32 A' es.length c' (dvs es).flatten, .low (.blobs B (some ad) n l), .kept w w.heap.size]
        [.eq (.slice (some ad) n c), .eq (.int .i64 k), .eq (.pointer (some (ad.add (k * 33)))), .eq (.pointer (some ⟨(ad.add (k * 33)).block, (ad.add (k * 33)).off + 32, none⟩)), .eq (.slice x.A x.n x.c), .eq (.agg (s.map bv).toArray), .eq (.slice (some ad) n c), .eq (.int .i64 k), .eq (.pointer (some (ad.add (k * 33)))), .eq (.pointer (some (ad.add (k * 33)))), .eq (.agg (x.d.map bv).toArray)]
        (by kernel_rfl) (by kernel_rfl) hI rfl ?hops ?fin
      case hops =>
        refine ⟨?_, ?_, ?_, ?_, ?_, ?_, ?_, ?_, ?_, ?_, ?_, trivial⟩
        · intro a W hW hb hd K hK
          have b0 := hb 0 rfl
          go_simp
          exact hK _ _ (World.grownBy.refl _ _) rfl
        · intro a W hW hb hd K hK
          have b4 := hb 4 rfl
          go_simp
          exact hK _ _ (World.grownBy.refl _ _) rfl
        · intro a W hW hb hd K hK
          have b11 : a.tmps[11]?.getD undef = _ := hd ⟨0, .data⟩ (by simp) rfl
          have b12 : a.tmps[12]?.getD undef = _ := hd ⟨1, .data⟩ (by simp) rfl
          go_simp
          exact hK _ _ (World.grownBy.refl _ _) rfl
        · intro a W hW hb hd K hK
          have b13 : a.tmps[13]?.getD undef = _ := hd ⟨2, .data⟩ (by simp) rfl
          go_simp
          exact hK _ _ (World.grownBy.refl _ _) rfl
        · intro a W hW hb hd K hK
          have b14 : a.tmps[14]?.getD undef = _ := hd ⟨3, .data⟩ (by simp) rfl
          have q1 : W.cell? ⟨(ad.add (k * 33)).block, (ad.add (k * 33)).off + 32, none⟩ = some (.slice x.A x.n x.c) := HX.out W (hW.at_ 1 rfl : Blobs W B (some ad) n l ∧ B ≤ W.heap.size).1 32 _ (bl_last hx.out)
          go_simp
          exact hK _ _ (World.grownBy.refl _ _) rfl
        · intro a W hW hb hd K hK
          have b15 : a.tmps[15]?.getD undef = _ := hd ⟨4, .data⟩ (by simp) rfl
          have hbx := HBX.out W (hW.at_ 1 rfl : Blobs W B (some ad) n l ∧ B ≤ W.heap.size).1
          go_simp
          refine (refSum_any W B x.A x.n x.c x.b hbx.rd (hW.at_ 1 rfl : Blobs W B (some ad) n l ∧ B ≤ W.heap.size).2 (by have := hxn.out; omega)).mono ?_
          rintro e w' ⟨rfl, hb'⟩
          rw [HSS.out]
          exact hK _ _ (grown_of_below hb') rfl
        · intro a W hW hb hd K hK
          have b0 := hb 0 rfl
          go_simp
          exact hK _ _ (World.grownBy.refl _ _) rfl
        · intro a W hW hb hd K hK
          have b4 := hb 4 rfl
          go_simp
          exact hK _ _ (World.grownBy.refl _ _) rfl
        · intro a W hW hb hd K hK
          have b17 : a.tmps[17]?.getD undef = _ := hd ⟨6, .data⟩ (by simp) rfl
          have b18 : a.tmps[18]?.getD undef = _ := hd ⟨7, .data⟩ (by simp) rfl
          go_simp
          exact hK _ _ (World.grownBy.refl _ _) rfl
        · intro a W hW hb hd K hK
          have b19 : a.tmps[19]?.getD undef = _ := hd ⟨8, .data⟩ (by simp) rfl
          go_simp
          exact hK _ _ (World.grownBy.refl _ _) (by first | rfl | (rw [add_zero]; rfl) | (simp [add_zero]; rfl))
        · intro a W hW hb hd K hK
          have b20 : a.tmps[20]?.getD undef = _ := hd ⟨9, .data⟩ (by simp) rfl
          refine wp_load_any 31 (.tmp 20) rfl (ad.add (k * 33)) (show a.eval (.tmp 20) = _ from by simp only [Act.eval, Array.getD_eq_getD_getElem?]; exact b20) (x.d.map bv) _ (fun q s hs => HX.out W (hW.at_ 1 rfl : Blobs W B (some ad) n l ∧ B ≤ W.heap.size).1 q s (by have := bl_sub0 x q s hs; rwa [Nat.zero_add] at this)) Try.underlying31 rfl (by rw [List.length_map, hx.out]; kernel_rfl) ?_
          exact hK _ _ (World.grownBy.refl _ _) rfl
      case fin =>
        intro vs V hV hv
        have e5 : vs 5 = _ := hv 5 (by decide)
        have e10 : vs 10 = _ := hv 10 (by decide)
        clear hv
        simp only [putAll, List.drop_succ_cons, List.drop_zero, e5, e10, Act.put, List.setIfInBounds_toArray, List.set_cons_succ, List.set_cons_zero]
        clear e5 e10
        have hbV : w.heap.size ≤ V.heap.size := Nat.le_trans (Nat.le_refl _) (hV.at_ 2 rfl : _ ∧ w.heap.size ≤ V.heap.size).2
        clear hI
        have q1 := fun W => eqIn_dg W s x.d HS32.out hx.out
        by_cases hsx : s = x.d
        · rw [decide_eq_true hsx] at q1
          have HE2 : Hid (es = audS (l.take (k + 1)) ∧ es.length ≤ k + 1) := Lib.hid ⟨by rw [HTK.out, audS_good (by rw [HSS.out]; exact hsx), HE.out.1], by have := HE.out.2; omega⟩
          clear hsx
          go_wp2_with fail
          exact ⟨⟨k + 1, A', c', es, by omega, by go_num, rfl, hbV, HE2, hV⟩, by simp [intOf]; omega⟩
        · rw [decide_eq_false hsx] at q1
          have HSX : Hid (shaS x.b ≠ x.d) := Lib.hid (by rw [HSS.out]; exact hsx)
          clear hsx
          go_wp2_with (first
            | (refine wl_load_any rfl 31 (.tmp 27) rfl (ad.add (k * 33)) rfl (x.d.map bv) _ (fun q s hs => HX.out _ (hV.at_ 1 rfl : Blobs _ B (some ad) n l ∧ _).1 q s (by have := bl_sub0 x q s hs; rwa [Nat.zero_add] at this)) Try.underlying31 rfl (by rw [List.length_map, hx.out]; kernel_rfl) ?_)
            | (refine wl_lit1 el_dg rfl (.tmp 28) rfl (x.d.map bv) rfl (by rw [List.length_map, hx.out]) (by decide) ?_)
            | (at_builtin; refine wl_app_at el_dg (hV.alloc _) 0 rfl (.tmp 23) (.tmp 29) rfl (w.heap.size) _ _ _ _ rfl rfl (V.heap.size + 1) _ 1 1 (x.d.map bv) rfl (Rd.lit V (x.d.map bv).toArray _ 1 (by rw [List.size_toArray, List.length_map, hx.out])) (bv_one _) (by omega) (by simp; omega) (fun q hq _ => HAP.out q hq) ?_; intro A5 c5 w5 hI5 hs5; simp only [List.set_cons_succ, List.set_cons_zero] at hI5))
          have hb5 : w.heap.size ≤ w5.heap.size := by simp at hs5; omega
          have hI6 : All w5 [.own (w.heap.size) 31 32 A5 (es ++ [x.d]).length c5 (dvs (es ++ [x.d])).flatten, .low (.blobs B (some ad) n l), .kept w w.heap.size] := ⟨(hI5.at_ 0 rfl : Go.Adm.Own w5 (w.heap.size) 31 32 A5 _ c5 _).cast (by simp) (by simp [dvs]), hI5.2⟩
          have HE2 : Hid (es ++ [x.d] = audS (l.take (k + 1)) ∧ (es ++ [x.d]).length ≤ k + 1) := Lib.hid ⟨by rw [HTK.out, audS_bad HSX.out, HE.out.1], by have := HE.out.2; simp; omega⟩
          clear hI5 HE HTK HX HBX
          go_wp2_with fail
          exact ⟨⟨k + 1, A5, c5, es ++ [x.d], by omega, by go_num, by simp, hb5, HE2, hI6⟩, by simp [intOf]; omega⟩
    · obtain rfl : n = k := by omega
      have d1 : decide ((n : Int) < (n : Int)) = false := by simp
      have hes : es = audS l := by rw [HE.out.1, List.take_of_length_le (by rw [HN.out]; exact Nat.le_refl _)]
      have hel := HE.out.2
      clear hlt
      subst hes
      have hO : Go.Adm.Own wr (w.heap.size) 31 32 A' (audS l).length c' _ := hI.at_ 0 rfl
      have hdg : Digs wr wr.heap.size A' (audS l).length (audS l) := ⟨Els.of hO (fun e he => by
        obtain ⟨y, hy, rfl⟩ := List.mem_map.1 he
        rw [List.length_map]; exact H32.out y hy) (dvs_len _), H32.out, rfl⟩
      have HD := Lib.hid hdg
      have HO := Lib.hid hO.cap
      clear hO hdg HE
      go_wp2_with fail
      go_ret
      exact ⟨A', c', rfl, HD.out, HO.out.1, HO.out.2, (hI.at_ 2 rfl : _ ∧ _).1⟩
end Go.Proofs.Ytahfhlpolhibdaa

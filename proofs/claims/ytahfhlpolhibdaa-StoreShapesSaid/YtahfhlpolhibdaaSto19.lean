/- StorePuts, walked. -/
import Derived.Test.YtahfhlpolhibdaaSto18
import Derived.Test.YtahfhlpolhibdaaOpenV
set_option linter.unusedSimpArgs false
set_option linter.unusedVariables false
set_option maxRecDepth 100000
namespace Go.Adm
open Go Go.RowKit
theorem wl_met {P : Program} {ops : Array Oper} {rest : List Oper} {o : Oper} {a : Act} {w : World} {Q : Exit → Act → World → Prop} (hw : Region.wanted o (yielded ops a.tmps) = true)
    (h : o.wp P a w (wpList P ops Q rest) Q) : wpList P ops Q (o :: rest) a w := by
  unfold wpList
  rw [if_pos hw]
  exact .inl h
theorem put3_32 {l : List Bl} {d b : List UInt8} (h : d.length = 32) : (put3 l d b).2.1.length = 32 := by
  unfold put3
  split
  · split
    · split
      · exact h
      · split
        · rfl
        · exact h
    · rfl
  · rfl
theorem put3_len {l : List Bl} {d b : List UInt8} : (put3 l d b).1.length ≤ l.length + 1 := by
  have h1 : ∀ k, k ≤ l.length → ((l.map pr).take k ++ (d, b) :: (l.map pr).drop k).length = l.length + 1 := fun k hk => by
    rw [List.length_append, List.length_cons, List.length_take, List.length_drop, List.length_map]; omega
  unfold put3
  split
  · split
    · split
      · show (l.map pr).length ≤ _; rw [List.length_map]; omega
      · split
        · exact Nat.zero_le _
        · exact Nat.le_of_eq (h1 _ (placeB_le l d))
    · exact Nat.zero_le _
  · exact Nat.zero_le _
end Go.Adm
namespace Go.Proofs.Ytahfhlpolhibdaa
open Go Go.RowKit Go.Adm
theorem got_rd {w : World} {B : Nat} {A : Option Addr} {n : Nat} {l : List Bl} (h : Blobs w B A n l) (d : List UInt8) : ∃ A' n' c', got (lookB l d) = .tuple #[.slice A' n' c', .bool (lookB l d).isSome] ∧ Rd w B 1 A' n' ((dataB (lookB l d)).map bv) := by
  cases hk : lookB l d with
  | none => exact ⟨none, 0, 0, rfl, Rd.nil⟩
  | some x => exact ⟨x.A, x.n, x.c, rfl, (h.each x (lookB_mem hk)).rd⟩

set_option maxHeartbeats 6400000 in
theorem walkPuts (w : World) (A Ad Ar : Option Addr) (n c cd nr cr : Nat) (l : List Bl) (b : List UInt8) (rows : List (List Int)) (hl : Blobs w w.heap.size A n l) (hnc : n ≤ c) (hc : c ≤ 140737488351232) (hbig : ∀ x ∈ l, x.n ≤ 140737488351232)
    (hb : Rd w w.heap.size 1 Ad b.length (b.map bv)) (hncd : b.length ≤ cd) (hcd : cd ≤ 140737488351232) (hr : IRows w w.heap.size Ar nr rows) (hnr : nr ≤ 140737488351232) (hri : ∀ r ∈ rows, IntB r) :
    Calls Try.prog 3 #[.slice A n c, .slice Ad b.length cd, .slice Ar nr cr] w fun e w' => e = .returned (.bool true) ∧ Below w.heap.size w w' := by
  have hR : All w [.low (.blobs w.heap.size A n l), .low (.rd w.heap.size 1 Ad b.length (b.map bv)), .kept w w.heap.size] := ⟨⟨hl, Nat.le_refl _⟩, ⟨hb, Nat.le_refl _⟩, ⟨Below.refl _ _, Nat.le_refl _⟩, trivial⟩
  have HBIG : Hid (∀ x ∈ l, x.n ≤ 140737488355000) := Lib.hid (fun x hx => Nat.le_trans (hbig x hx) (by decide))
  have HRI := Lib.hid hri
  have HR := Lib.hid hr
  have hli := light_any w w.heap.size A n c l hl (Nat.le_refl _) (by omega) HBIG.out
  clear hbig hl hb hri hr
  go_enter Try.func3, Try.ntmps3
  go_upto_region 1 with (fail)
  go_wp2_with fail
  refine hli.mono ?_
  clear hli
  rintro e w1 ⟨he, hb1⟩
  have hR1 := hR.call hb1
  have hb1' := Lib.hid hb1
  clear hb1 hR
  rcases he with rfl | ⟨rfl, h300⟩
  · go_wp2_with fail
    go_ret
    exact ⟨rfl, (hR1.at_ 2 rfl : _ ∧ _).1⟩
  by_cases hlong : 300000 < b.length
  · have d1 : decide (300000 < (b.length : Int)) = true := by simp; omega
    have d2 : decide (300000 < b.length) = true := by simp; omega
    clear hlong
    go_wp2_with fail
    go_ret
    exact ⟨rfl, (hR1.at_ 2 rfl : _ ∧ _).1⟩
  have d1 : decide (300000 < (b.length : Int)) = false := by simp; omega
  have d2 : decide (300000 < b.length) = false := by simp; omega
  have hb3 : b.length ≤ 300000 := by omega
  have hir : IRows w1 w.heap.size Ar nr rows := by
    obtain ⟨vs, h1, h2⟩ := HR.out.rows
    exact ⟨vs, h1.below hb1'.out (Nat.le_refl _), h2.imp fun v L ⟨A, c, e, h⟩ => ⟨A, c, e, h.below hb1'.out (Nat.le_refl _)⟩⟩
  have hfi := filled_any w1 w.heap.size Ar nr cr rows hir hb1'.out.size (by omega) (fun r hr => (HRI.out r hr).2) (fun r hr => by have := (HRI.out r hr).1; omega)
  clear hlong hir
  go_wp2_with fail
  refine hfi.mono ?_
  clear hfi
  rintro e w2 ⟨Ay, ny, cy, ly, Aa, na, ca, ds, cs, rfl, hbly, -, hncy, hcmy, -, -, hiv, hcl, hc26, -, hb2⟩
  have hny : ny ≤ 12 := by
    have h1 := hiv.len
    rw [List.length_map, hbly.len] at h1
    omega
  have HBY : Hid (∀ x ∈ ly, x.n ≤ 140737488355000) := Lib.hid (fun x hx => by
    obtain ⟨c, hc, e⟩ := hiv.frm _ (pr_mem rfl hx)
    have := hc26 c hc
    rw [← (hbly.each x hx).len, show x.b = c from congrArg Prod.snd e]
    omega)
  have hR2 := hR1.call hb2
  have hR3 : All w2 [.low (.blobs w.heap.size A n l), .low (.rd w.heap.size 1 Ad b.length (b.map bv)), .low (.blobs w2.heap.size Ay ny ly), .kept w w.heap.size] := ⟨hR2.at_ 0 rfl, hR2.at_ 1 rfl, ⟨hbly, Nat.le_refl _⟩, hR2.at_ 2 rfl, trivial⟩
  obtain ⟨By, hBy⟩ : ∃ By, By = w2.heap.size := ⟨_, rfl⟩
  obtain ⟨gL, hgL⟩ : ∃ gL, gL = w2.heap.size := ⟨_, rfl⟩
  rw [← hBy] at hR3
  have HBY2 : Hid (By ≤ gL) := Lib.hid (by omega)
  have hL0 := hR3.new (l := [.slice A n c, .slice Ay ny cy]) #[.slice A n c, .slice Ay ny cy] 22 hgL rfl
  clear hBy hR1 hR2 hR3 hbly hb2 hiv hcl hc26 hb1'
  have HNC : Hid (n ≤ c ∧ c ≤ maxLen ∧ n ≤ 300) := Lib.hid ⟨hnc, by simp only [maxLen]; omega, h300⟩
  have HNY : Hid (ny ≤ cy ∧ cy ≤ maxLen ∧ ny ≤ 300) := Lib.hid ⟨hncy, hcmy, by omega⟩
  obtain ⟨dp, hdp⟩ : ∃ dp, shaS b = dp := ⟨_, rfl⟩
  have HDP : Hid (dp.length = 32) := Lib.hid (by rw [← hdp]; exact shaS_len b)
  have HSH := Lib.hid hdp
  have HCD : Hid (cd ≤ maxLen) := Lib.hid (by simp only [maxLen]; omega)
  clear hnc hc h300 hncy hcmy hny hdp
  go_wp2_with fail
  rw [← hgL]
  clear hgL
  refine wp_gen hL0 ?_
  intro W3 hW3
  clear hL0
  have HCH : Hid (∀ k, k < 2 → ∃ Ax nx cx lx, ([.slice A n c, .slice Ay ny cy] : List Value)[k]? = some (.slice Ax nx cx) ∧ (nx ≤ cx ∧ cx ≤ maxLen ∧ nx ≤ 300) ∧ (∀ x ∈ lx, x.n ≤ 140737488355000) ∧
      ∀ W, All W [.cells gL 22 [.slice A n c, .slice Ay ny cy], .low (.blobs w.heap.size A n l), .low (.rd w.heap.size 1 Ad b.length (b.map bv)), .low (.blobs By Ay ny ly), .kept w w.heap.size] → Blobs W W.heap.size Ax nx lx) := Lib.hid (fun k hk => by
    rcases k with _ | _ | k
    · exact ⟨A, n, c, l, rfl, HNC.out, HBIG.out, fun W hW => (hW.at_ 1 rfl : Blobs W w.heap.size A n l ∧ _).1.mono (hW.at_ 1 rfl : _ ∧ w.heap.size ≤ W.heap.size).2⟩
    · exact ⟨Ay, ny, cy, ly, rfl, HNY.out, HBY.out, fun W hW => (hW.at_ 3 rfl : Blobs W By Ay ny ly ∧ _).1.mono (hW.at_ 3 rfl : _ ∧ By ≤ W.heap.size).2⟩
    · omega)
  obtain ⟨vs, hvs⟩ : ∃ vs : List Value, vs = [.slice A n c, .slice Ay ny cy] := ⟨_, rfl⟩
  have hv2 : vs.length = 2 := by rw [hvs]; rfl
  have HV2 := Lib.hid hv2
  rw [← hvs] at hW3 HCH
  clear hvs hv2
  go_loopw [38] (fun iv wr => ∃ k : Nat, k ≤ 2 ∧ iv = .int .i64 k ∧ All wr [.cells gL 22 vs, .low (.blobs w.heap.size A n l), .low (.rd w.heap.size 1 Ad b.length (b.map bv)), .low (.blobs By Ay ny ly), .kept w w.heap.size]) (fun iv _ => 2 - (intOf iv).toNat)
  case atStart => exact ⟨0, by omega, rfl, hW3⟩
  case round =>
    clear hW3
    obtain ⟨k, hk, rfl, hI⟩ := hrel
    by_cases hlt : k < 2
    · obtain ⟨Ax, nx, cx, lx, hvk, ⟨hnx, hcx, hx3⟩, hbx, hX⟩ := HCH.out k hlt
      have HX := Lib.hid hX
      have HBX := Lib.hid hbx
      clear hX hbx
      have d3 : decide ((k : Int) < 2) = true := by simp; omega
      have d3' : decide (k < 2) = true := by simp; omega
      have wk0 : (0 : Int) ≤ (k : Int) := by omega
      have wk1 : (k : Int) < 2 := by omega
      have wk2 : ((k : Int)).toNat = k := by omega
      have q1 : wr.cell? ⟨gL, k, none⟩ = some (.slice Ax nx cx) := by
        have hkl : k < vs.length := by rw [HV2.out]; exact hlt
        rw [Cells.cell (hI.at_ 0 rfl) hkl]
        rw [List.getElem?_eq_getElem hkl] at hvk
        exact hvk
      have hwr := (hI.at_ 2 rfl : Rd wr w.heap.size 1 Ad b.length (b.map bv) ∧ w.heap.size ≤ wr.heap.size)
      have hpu := Put_any wr wr.heap.size Ax Ad nx cx b.length cd lx dp b (HX.out wr hI) (hwr.1.mono hwr.2) HSH.out (by omega) (by omega) hncd HCD.out (Nat.le_refl _) HBX.out
      have hp2 : ∀ W, All W [.cells gL 22 vs, .low (.blobs w.heap.size A n l), .low (.rd w.heap.size 1 Ad b.length (b.map bv)), .low (.blobs By Ay ny ly), .kept w w.heap.size] →
          Calls Try.prog 10 #[.slice Ax nx cx, .slice Ad b.length cd] W (PutPost lx dp b W) := fun W hW =>
        refPut_any W W.heap.size Ax Ad nx cx b.length cd lx dp b (HX.out W hW) ((hW.at_ 2 rfl : Rd W w.heap.size 1 Ad b.length (b.map bv) ∧ _).1.mono (hW.at_ 2 rfl : _ ∧ w.heap.size ≤ W.heap.size).2) HSH.out (by omega) hnx hcx (by omega) hncd HCD.out (Nat.le_refl _) HBX.out
      unfold PutPost at hpu hp2
      clear hwr hvk
      have h32 := put3_32 (l := lx) (b := b) HDP.out
      have hpl := put3_len (l := lx) (d := dp) (b := b)
      rw [(HX.out wr hI).len] at hpl
      generalize (put3 lx dp b).1 = Pl at *
      generalize (put3 lx dp b).2.1 = dq at *
      generalize (put3 lx dp b).2.2 = ev at *
      have HQ := Lib.hid h32
      have HP2 := Lib.hid hp2
      clear h32 hp2
      go_wp2_with fail
      refine hpu.mono ?_
      clear hpu q1
      rintro e w4 ⟨A1, n1, c1, l1, rfl, hb1, -, -, hp1, hbw⟩
      have hI4 := hI.call hbw
      obtain ⟨g12, hg12⟩ : ∃ g, g = w4.heap.size := ⟨_, rfl⟩
      have hK4 : All w4 (.low (.blobs w4.heap.size A1 n1 l1) :: [.cells gL 22 vs, .low (.blobs w.heap.size A n l), .low (.rd w.heap.size 1 Ad b.length (b.map bv)), .low (.blobs By Ay ny ly), .kept w w.heap.size]) := ⟨⟨hb1, Nat.le_refl _⟩, hI4⟩
      have hgL : gL < g12 := by rw [hg12]; exact Cells.lt (hI4.at_ 0 rfl)
      have hwg : w.heap.size ≤ g12 := by rw [hg12]; exact (hI4.at_ 1 rfl : _ ∧ w.heap.size ≤ w4.heap.size).2
      have hyg : By ≤ g12 := by rw [hg12]; exact (hI4.at_ 3 rfl : _ ∧ By ≤ w4.heap.size).2
      rw [← hg12] at hK4
      have HP1 : Hid (l1.map pr = Pl ∧ n1 = Pl.length) := Lib.hid ⟨hp1, by rw [← hp1, List.length_map]; exact hb1.len.symm⟩
      have hzr := zero_dg
      clear hI hI4 hbw hb1 hp1
      go_upto_region 8 with (refine wl_store_at (hK4.new (l := z32.map bv) _ 31 hg12 rfl) 0 rfl 31 (.tmp 12) (.tmp 47) rfl g12 _ _ (dq.map bv) rfl (by rw [hg12]; rfl) rfl (by rw [List.length_map, HQ.out]; rfl) (by rw [List.length_map, HQ.out]; kernel_rfl) (bv_one _) (by simp [Apart, Res.apart, Low.blobs, Low.rd] <;> omega) ?_; intro W5 hW5 hs5; simp only [List.set_cons_zero] at hW5)
      simp only [← hg12]
      clear hK4 hg12 hs5
      have hpu := HP2.out W5 hW5.2.2
      go_wp2_with fail
      refine hpu.mono ?_
      clear hpu
      rintro e w6 ⟨A2, n2, c2, l2, rfl, hb2, -, -, hp2, hbw⟩
      have hI6 := hW5.call hbw
      obtain ⟨g15, hg15⟩ : ∃ g, g = w6.heap.size := ⟨_, rfl⟩
      have hK6 : All w6 (.low (.blobs w6.heap.size A2 n2 l2) :: .cells g12 31 (dq.map bv) :: .low (.blobs g12 A1 n1 l1) :: [.cells gL 22 vs, .low (.blobs w.heap.size A n l), .low (.rd w.heap.size 1 Ad b.length (b.map bv)), .low (.blobs By Ay ny ly), .kept w w.heap.size]) := ⟨⟨hb2, Nat.le_refl _⟩, hI6⟩
      have hg12' : g12 < g15 := by rw [hg15]; exact Cells.lt (hI6.at_ 0 rfl)
      rw [← hg15] at hK6
      have HP3 : Hid (l2.map pr = Pl ∧ n2 = Pl.length) := Lib.hid ⟨hp2, by rw [← hp2, List.length_map]; exact hb2.len.symm⟩
      clear hW5 hI6 hbw hb2 hp2
      go_upto_region 9 with (refine wl_store_at (hK6.new (l := z32.map bv) _ 31 hg15 rfl) 0 rfl 31 (.tmp 15) (.tmp 54) rfl g15 _ _ (dq.map bv) rfl (by rw [hg15]; rfl) rfl (by rw [List.length_map, HQ.out]; rfl) (by rw [List.length_map, HQ.out]; kernel_rfl) (bv_one _) (by simp [Apart, Res.apart, Low.blobs, Low.rd] <;> omega) ?_; intro W7 hW7 hs7; simp only [List.set_cons_zero] at hW7)
      simp only [← hg15]
      clear hK6 hg15 hs7 hzr
      have hge := Get_any W7 W7.heap.size Ax nx cx lx dq (HX.out W7 hW7.2.2.2.2) HQ.out (by omega) (Nat.le_refl _) HBX.out
      go_wp2_with (refine wl_load_any rfl 31 (.tmp 15) rfl ⟨g15, 0, none⟩ rfl (dq.map bv) _ (Cells.sub (hW7.at_ 0 rfl) 0 (fun j u h => by rwa [Nat.zero_add])) Try.underlying31 rfl (by rw [List.length_map, HQ.out]; kernel_rfl) ?_)
      refine hge.mono ?_
      clear hge
      rintro e w8 ⟨A3, n3, c3, rfl, hbw, hr3⟩
      have hK8 : All w8 (.low (.rd w8.heap.size 1 A3 n3 ((dataB (lookB lx dq)).map bv)) :: _) := ⟨⟨hr3, Nat.le_refl _⟩, hW7.call hbw⟩
      generalize w8.heap.size = B8 at hK8
      have hX8 := HX.out w8 hK8.2.2.2.2.2
      have hge := refGet_any w8 w8.heap.size Ax nx cx lx dq hX8 HQ.out (by omega) (Nat.le_refl _)
      obtain ⟨A4, n4, c4, hgot, hr4⟩ := got_rd hX8 dq
      rw [hgot] at hge
      have hK9 : All w8 (.low (.rd w8.heap.size 1 A4 n4 ((dataB (lookB lx dq)).map bv)) :: _) := ⟨⟨hr4, Nat.le_refl _⟩, hK8⟩
      generalize w8.heap.size = B9 at hK9
      clear hW7 hbw hr3 hK8 hX8 hgot hr4
      go_wp2_with (refine wl_load_any rfl 31 (.tmp 15) rfl ⟨g15, 0, none⟩ rfl (dq.map bv) _ (Cells.sub (hK9.at_ 2 rfl) 0 (fun j u h => by rwa [Nat.zero_add])) Try.underlying31 rfl (by rw [List.length_map, HQ.out]; kernel_rfl) ?_)
      refine hge.mono ?_
      clear hge
      rintro e w10 ⟨rfl, hbw⟩
      have hK10 := hK9.call hbw
      clear hK9 hbw
      generalize (lookB lx dq).isSome = ok at *
      generalize dataB (lookB lx dq) = y at *
      obtain ⟨sp, hsp⟩ : ∃ s : ByteArray, s = ⟨y.toArray⟩ := ⟨_, rfl⟩
      have HSP := Lib.hid hsp
      clear hsp
      have hne := fun w => ne_dg w dq dq HQ.out HQ.out
      simp only [decide_true, Bool.not_true] at hne
      obtain ⟨e1, e2⟩ := HP1.out
      obtain ⟨e3, e4⟩ := HP3.out
      have hsa := Same_true w10 w10.heap.size A1 A2 n1 c1 c2 l1 l2 ((hK10.at_ 5 rfl : Blobs w10 g12 A1 n1 l1 ∧ _).1.mono (hK10.at_ 5 rfl : _ ∧ g12 ≤ w10.heap.size).2) (by rw [e2, ← e4]; exact (hK10.at_ 3 rfl : Blobs w10 g15 A2 n2 l2 ∧ _).1.mono (hK10.at_ 3 rfl : _ ∧ g15 ≤ w10.heap.size).2) (by rw [e1, e3]) (by omega) (Nat.le_refl _)
      have hn12 : n1 = n2 := by omega
      rw [show Value.slice A2 n1 c2 = .slice A2 n2 c2 from slice_len A2 c2 hn12] at hsa
      clear e1 e2 e3 e4 hn12
      have b1 : (ev != ev) = false := by simp
      have b2 : (ok != ok) = false := by simp
      go_wp2_with (first
        | (refine wl_met rfl ?_; refine wp_load_any 31 (.tmp 12) rfl ⟨g12, 0, none⟩ rfl (dq.map bv) _ (Cells.sub (hK10.at_ 4 rfl) 0 (fun j u h => by rwa [Nat.zero_add])) Try.underlying31 rfl (by rw [List.length_map, HQ.out]; kernel_rfl) ?_)
        | (refine wl_met rfl ?_; refine wp_load_any 31 (.tmp 15) rfl ⟨g15, 0, none⟩ rfl (dq.map bv) _ (Cells.sub (hK10.at_ 2 rfl) 0 (fun j u h => by rwa [Nat.zero_add])) Try.underlying31 rfl (by rw [List.length_map, HQ.out]; kernel_rfl) ?_))
      refine hsa.mono ?_
      clear hsa
      rintro e w11 ⟨rfl, hbw⟩
      have hK11 := hK10.call hbw
      clear hK10 hbw
      have q5 : (convert 23 9 (.slice A3 n3 c3)).run Try.prog w11 = .ok (.string sp) w11 := by rw [HSP.out]; exact conv_b (hK11.at_ 1 rfl : Rd w11 B8 1 A3 n3 (y.map bv) ∧ _).1
      have q6 : (convert 23 9 (.slice A4 n4 c4)).run Try.prog w11 = .ok (.string sp) w11 := by rw [HSP.out]; exact conv_b (hK11.at_ 0 rfl : Rd w11 B9 1 A4 n4 (y.map bv) ∧ _).1
      have b3 : (sp.data.toList != sp.data.toList) = false := by simp
      have b4 : (sp.toList != sp.toList) = false := by simp
      have b5 : (sp.data.toList == sp.data.toList) = true := by simp
      have b6 : (sp.toList == sp.toList) = true := by simp
      go_wp2_with fail
      exact ⟨⟨k + 1, by omega, by go_num, hK11.2.2.2.2.2.2⟩, by simp [intOf]; omega⟩
    · obtain rfl : k = 2 := by omega
      have haw := awake_any wr
      go_wp2_with fail
      refine haw.mono ?_
      clear haw
      rintro e w9 ⟨rfl, hb9⟩
      have hI9 := hI.call hb9
      go_wp2_with fail
      go_ret
      exact ⟨rfl, (hI9.at_ 4 rfl : _ ∧ _).1⟩
end Go.Proofs.Ytahfhlpolhibdaa

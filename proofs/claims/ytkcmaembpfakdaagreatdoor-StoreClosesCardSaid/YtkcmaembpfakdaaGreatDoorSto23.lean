/- Merge of the program. Merge of the reference. -/
import Derived.Test.YtkcmaembpfakdaaGreatDoorSto20
import Derived.Test.YtkcmaembpfakdaaGreatDoorSto21
import Derived.Test.YtkcmaembpfakdaaGreatDoorSto14
set_option linter.unusedSimpArgs false
set_option linter.unusedVariables false
set_option maxRecDepth 100000
namespace Go.Adm
open Go Go.RowKit
theorem misP_snoc (Pa Q : PrL) (p : List UInt8 × List UInt8) : misP Pa (Q ++ [p]) = (misP Pa Q || match lookP Pa p.1 with | none => false | some y => decide (y ≠ p.2)) := by
  unfold misP
  rw [List.any_append, List.any_cons, List.any_nil, Bool.or_false]
  rfl
theorem misP_none {Pa Q : PrL} {d b : List UInt8} (h : misP Pa Q = false) (hl : lookP Pa d = none) : misP Pa (Q ++ [(d, b)]) = false := by
  rw [misP_snoc, h, hl]; rfl
theorem misP_same {Pa Q : PrL} {d b : List UInt8} (h : misP Pa Q = false) (hl : lookP Pa d = some b) : misP Pa (Q ++ [(d, b)]) = false := by
  rw [misP_snoc, h, hl]; simp
theorem putP_had {P : PrL} {d b y : List UInt8} (h : lookP P d = some y) : putP P d b = P := by
  unfold putP
  rw [if_pos (List.mem_map_of_mem (f := Prod.fst) (lookP_some h))]
theorem putP_new {P : PrL} {d b : List UInt8} (h : lookP P d = none) : putP P d b = P.take (placeD (P.map Prod.fst) d) ++ (d, b) :: P.drop (placeD (P.map Prod.fst) d) := by
  unfold putP
  rw [if_neg (lookP_none.1 h)]
theorem take_fresh {Pb : PrL} (h : Asc (Pb.map Prod.fst)) {k : Nat} (hk : k < Pb.length) : Pb[k].1 ∉ (Pb.take k).map Prod.fst := fun hm => by
  rw [List.map_take] at hm
  obtain ⟨i, hi, e⟩ := List.getElem_of_mem hm
  rw [List.length_take, List.length_map] at hi
  rw [List.getElem_take, List.getElem_map] at e
  have := (List.pairwise_iff_getElem.1 h) i k (by rw [List.length_map]; omega) (by rw [List.length_map]; exact hk) (by omega)
  simp only [List.getElem_map] at this
  rw [e, lessD_irrefl] at this
  cases this
theorem dat_ne {g0 g : Nat} {l : List Bl} (h : ∀ x ∈ l, ∀ ad, x.A = some ad → ad.block ≠ g) : (Res.dat g0 l).apart (some g) := fun b hb => by
  injection hb with hb
  subst hb
  refine ⟨Nat.zero_le _, Or.inr ⟨fun e => (by cases e), ?_⟩⟩
  rintro ⟨x, hx, ad, e, e2⟩
  exact h x hx ad e e2
theorem Blobs.of2 {w : World} {g g0 n : Nat} {t : TypeId} {l : List Bl} {cs : List Value} (hc : Cells w g t cs) (hd : (Res.dat g0 l).ok w) (hl : l.length = n) (hcs : cs.take (n * 33) = (l.map blC).flatten) : Blobs w w.heap.size (some ⟨g, 0, none⟩) n l := by
  have h33 : ∀ x ∈ l, x.d.length = 32 := fun x hx => (dat_get hd x hx).d32
  refine ⟨⟨⟨?_, fun _ => ⟨_, rfl, hc.lt, fun j u hu => ?_⟩⟩, fun e he => ?_, by rw [List.length_map]; exact hl⟩, dat_get hd, hl⟩
  · rw [blC_flat l h33, hl]
  · rw [add_lit, Nat.zero_add]
    rw [← hcs, List.getElem?_take] at hu
    split at hu
    · rw [cell_of_row w g j cs.toArray t (0, 0) hc]; simpa using hu
    · cases hu
  · obtain ⟨x, hx, rfl⟩ := List.mem_map.1 he
    exact blC_len (h33 x hx)
/-- what Merge leaves -/
def MrgPost (la lb : List Bl) (w : World) (e : Ending) (w' : World) : Prop :=
  ∃ A' n' c' l', e = .returned (.tuple #[.slice A' n' c', .int .i64 (merge3 la lb).2]) ∧ Blobs w' w'.heap.size A' n' l' ∧ n' ≤ c' ∧ c' ≤ maxLen ∧ l'.map pr = (merge3 la lb).1 ∧ Below w.heap.size w w'
end Go.Adm
namespace Go.Proofs.YtkcmaembpfakdaaGreatDoor
open Go Go.RowKit Go.Adm
theorem bytesEqual_any (w : World) (B : Nat) (A1 A2 : Option Addr) (n1 n2 c1 c2 : Nat) (x y : List UInt8) (hx : Rd w B 1 A1 n1 (x.map bv)) (hy : Rd w B 1 A2 n2 (y.map bv)) :
    Calls Tryz.prog 44 #[.slice A1 n1 c1, .slice A2 n2 c2] w fun e w' => e = .returned (.bool (decide (x = y))) ∧ w = w' := by
  have q1 := fun c => conv_b (c := c) hx
  have q2 := fun c => conv_b (c := c) hy
  obtain ⟨sx, hsx⟩ : ∃ s : ByteArray, s = ⟨x.toArray⟩ := ⟨_, rfl⟩
  obtain ⟨sy, hsy⟩ : ∃ s : ByteArray, s = ⟨y.toArray⟩ := ⟨_, rfl⟩
  rw [← hsx] at q1
  rw [← hsy] at q2
  have hd : decide (x = y) = (sx.toList == sy.toList) := by
    rw [hsx, hsy, ByteArray.toList_eq, ByteArray.toList_eq]
    by_cases h : x = y
    · subst h; simp
    · simp [h]
  have HD := Lib.hid hd
  clear hd hx hy hsx hsy
  go_enter Tryz.func44, Tryz.ntmps44
  go_wp2
  go_ret
  exact ⟨ret_bool HD.out.symm, rfl⟩

set_option maxHeartbeats 6400000 in
theorem Merge_any (w : World) (B : Nat) (Aa Ab : Option Addr) (na nb ca cb : Nat) (la lb : List Bl) (ha : Blobs w B Aa na la) (hb : Blobs w B Ab nb lb) (hna : na ≤ 1000000) (hnb : nb ≤ 1000000) (hB : B ≤ w.heap.size) (hba : ∀ x ∈ la, x.n ≤ 140737488355000) (hbb : ∀ x ∈ lb, x.n ≤ 140737488355000) :
    Calls Tryz.prog 20 #[.slice Aa na ca, .slice Ab nb cb] w (MrgPost la lb w) := by
  have hR : All w [.low (.blobs B Aa na la), .low (.blobs B Ab nb lb), .kept w w.heap.size] := ⟨⟨ha, hB⟩, ⟨hb, hB⟩, ⟨Below.refl _ _, Nat.le_refl _⟩, trivial⟩
  have HNA := Lib.hid ha.len
  have HNB := Lib.hid hb.len
  have HBA := Lib.hid hba
  have HBB := Lib.hid hbb
  have hzr := zero_bl
  have hv1 := Valid_any w B Aa na ca la ha hna hB hba
  clear ha hb hba hbb
  go_enter Tryz.func20, Tryz.ntmps20
  go_upto_region 1 with (fail)
  go_wp2_with fail
  refine hv1.mono ?_
  clear hv1
  rintro e w1 ⟨rfl, hb1⟩
  have hW1 := hR.call hb1
  clear hb1 hR
  cases hva : validB la with
  | false =>
    have HF := Lib.hid (merge3_bad (la := la) (lb := lb) (by rw [hva]; rfl))
    clear hva
    go_wp2_with fail
    go_ret2
    exact ⟨none, 0, 0, [], by rw [HF.out]; rfl, Blobs.nil, Nat.le_refl _, by decide, by rw [HF.out]; rfl, (hW1.at_ 2 rfl : _ ∧ _).1⟩
  | true =>
  have HVA := Lib.hid hva
  clear hva
  have hv2 := Valid_any w1 B Ab nb cb lb (hW1.at_ 1 rfl : Blobs w1 B Ab nb lb ∧ _).1 hnb (hW1.at_ 1 rfl : _ ∧ B ≤ w1.heap.size).2 HBB.out
  go_wp2_with fail
  refine hv2.mono ?_
  clear hv2
  rintro e w2 ⟨rfl, hb2⟩
  have hW2 := hW1.call hb2
  clear hb2 hW1
  cases hvb : validB lb with
  | false =>
    have HF := Lib.hid (merge3_bad (la := la) (lb := lb) (by rw [hvb, HVA.out]; rfl))
    clear hvb
    go_wp2_with fail
    go_ret2
    exact ⟨none, 0, 0, [], by rw [HF.out]; rfl, Blobs.nil, Nat.le_refl _, by decide, by rw [HF.out]; rfl, (hW2.at_ 2 rfl : _ ∧ _).1⟩
  | true =>
  have HVB := Lib.hid hvb
  clear hvb
  have hco := copies_any w2 B Aa na ca la (hW2.at_ 0 rfl : Blobs w2 B Aa na la ∧ _).1 hna (hW2.at_ 0 rfl : _ ∧ B ≤ w2.heap.size).2 HBA.out
  go_wp2_with fail
  refine hco.mono ?_
  clear hco
  rintro e w3 ⟨l0, cs0, rfl, hpr0, hcs0, hcl0, hW3⟩
  obtain ⟨g0, hg0⟩ : ∃ g, g = w2.heap.size := ⟨_, rfl⟩
  have hwg0 : w.heap.size ≤ g0 := by rw [hg0]; exact (hW2.at_ 2 rfl : _ ∧ w.heap.size ≤ w2.heap.size).2
  have hBg0 : B ≤ g0 := Nat.le_trans hB hwg0
  have hb3 : Below w2.heap.size w2 w3 := (hW3.at_ 2 rfl : _ ∧ _).1
  have hK3 : All w3 [.cells g0 51 cs0, .dat g0 l0, .low (.blobs B Ab nb lb), .kept w w.heap.size] := ⟨by rw [hg0]; exact hW3.at_ 0 rfl, by rw [hg0]; exact hW3.at_ 1 rfl, (hW2.call hb3).at_ 1 rfl, (hW2.call hb3).at_ 2 rfl, trivial⟩
  have hPA : l0.map pr = la.map pr := hpr0
  have HAA : Hid (Asc ((la.map pr).map Prod.fst)) := Lib.hid (valid_asc HVA.out)
  have HAB : Hid (Asc ((lb.map pr).map Prod.fst)) := Lib.hid (valid_asc HVB.out)
  have HL0 : Hid (l0.length = na ∧ l0.map pr = mrgP (la.map pr) ((lb.map pr).take 0) ∧ misP (la.map pr) ((lb.map pr).take 0) = false ∧ cs0.take (na * 33) = (l0.map blC).flatten ∧ cs0.length = (na + 1) * 33 ∧ na ≤ na + 1 ∧ na + 1 ≤ maxLen ∧ ∀ x ∈ l0, ∀ ad, x.A = some ad → ad.block ≠ g0) := Lib.hid ⟨by
    rw [← List.length_map (f := pr), hpr0, List.length_map]; exact HNA.out, hpr0, rfl, hcs0, hcl0, Nat.le_succ _, by simp only [maxLen]; omega, fun x hx ad e => by have := (dat_at (hK3.at_ 1 rfl) x hx ad e).1; omega⟩
  have HPA := Lib.hid hPA
  clear hpr0 hcs0 hcl0 hW3 hb3 hPA hW2
  simp only [← hg0]
  clear hg0
  go_wp2_with fail
  go_loopw [6, 23] (fun o i wr => ∃ (k g n' c' : Nat) (l' : List Bl) (cs : List Value), k ≤ nb ∧ i = .int .i64 k ∧ o = .slice (some ⟨g, 0, none⟩) n' c' ∧ g0 ≤ g ∧ Hid (l'.length = n' ∧ l'.map pr = mrgP (la.map pr) ((lb.map pr).take k) ∧ misP (la.map pr) ((lb.map pr).take k) = false ∧ cs.take (n' * 33) = (l'.map blC).flatten ∧ cs.length = c' * 33 ∧ n' ≤ c' ∧ c' ≤ maxLen ∧ ∀ x ∈ l', ∀ ad, x.A = some ad → ad.block ≠ g) ∧ All wr [.cells g 51 cs, .dat g0 l', .low (.blobs B Ab nb lb), .kept w w.heap.size]) (fun _ i _ => nb - (intOf i).toNat)
  case atStart => exact ⟨0, g0, na, na + 1, l0, cs0, by omega, rfl, rfl, Nat.le_refl _, HL0, hK3⟩
  case round =>
    clear hK3 HL0
    obtain ⟨k, g, n', c', l', cs, hk, rfl, rfl, hgg, HI, hI⟩ := hrel
    obtain ⟨i1, i2, i3, i4, i5, i6, i7, i8⟩ := HI.out
    have hn' : n' ≤ 512 := by
      have h1 := congrArg List.length i2
      rw [List.length_map, i1] at h1
      have h2 := mrgP_len (Pa := la.map pr) (Pb := (lb.map pr).take k)
      rw [List.length_map, List.length_take, List.length_map] at h2
      have h3 := validB_len HVA.out
      have h4 := validB_len HVB.out
      omega
    clear i1 i2 i3 i4 i5 i6 i7 i8
    by_cases hlt : k < nb
    · have hkl : k < lb.length := by rw [HNB.out]; exact hlt
      have hbl := (hI.at_ 2 rfl : Blobs wr B Ab nb lb ∧ B ≤ wr.heap.size)
      obtain ⟨ad, rfl, hadB, hc⟩ := Els.elem hbl.1.els hkl
      have HC := Lib.hid hc
      have hx := Lib.hid (hbl.1.each _ (List.getElem_mem hkl)).d32
      have HBL : Hid (∀ W, All W [.low (.blobs B (some ad) nb lb)] → BlOk W B lb[k]) := Lib.hid (fun W hW => (hW.at_ 0 rfl : Blobs W B (some ad) nb lb ∧ _).1.each _ (List.getElem_mem hkl))
      have HXL : Hid (lb[k].b.length = lb[k].n) := Lib.hid (hbl.1.each _ (List.getElem_mem hkl)).len
      have hxn : Hid (lb[k].n ≤ 140737488355000) := Lib.hid (HBB.out _ (List.getElem_mem hkl))
      have HTK : Hid ((lb.map pr).take (k + 1) = (lb.map pr).take k ++ [pr lb[k]]) := Lib.hid (by
        rw [List.take_succ_eq_append_getElem (by rw [List.length_map]; exact hkl), List.getElem_map])
      have HMB : Hid (pr lb[k] ∈ lb.map pr) := Lib.hid (List.mem_map_of_mem (List.getElem_mem hkl))
      have HFR : Hid (lookP (mrgP (la.map pr) ((lb.map pr).take k)) (pr lb[k]).1 = lookP (la.map pr) (pr lb[k]).1) := Lib.hid (lookP_far (by
        have := take_fresh HAB.out (k := k) (by rw [List.length_map]; exact hkl)
        rwa [List.getElem_map] at this))
      clear hc hbl
      generalize lb[k] = x at *
      have d1 : decide ((k : Int) < (nb : Int)) = true := by simp; omega
      have hsw : g < wr.heap.size := Cells.lt (hI.at_ 0 rfl)
      have hBw : B ≤ g := Nat.le_trans hBg0 hgg
      have hgw : w.heap.size ≤ g := Nat.le_trans hwg0 hgg
      obtain ⟨gx, hgx⟩ : ∃ gx, gx = wr.heap.size := ⟨_, rfl⟩
      go_upto_region 7 with (first
        | (refine wl_load_any rfl 51 (.tmp 25) rfl (ad.add (k * 33)) rfl (blC x) _ HC.out Tryz.underlying51 rfl (by rw [blC_len hx.out]; kernel_rfl) ?_)
        | (refine wl_store_at (hI.new (l := blZ) _ 51 hgx rfl) 0 rfl 51 (.tmp 8) (.tmp 26) rfl gx _ _ (blC x) rfl (by rw [hgx]; rfl) rfl (by rw [blC_len hx.out]; rfl) (by rw [blC_len hx.out]; kernel_rfl) (blC_one x) ⟨by simp [Res.apart]; omega, dat_far (hI.at_ 1 rfl) (by omega), by simp [Res.apart, Low.blobs]; omega, by simp [Res.apart]; omega, trivial⟩ ?_; intro W2 hW2 hs2; simp only [List.set_cons_zero] at hW2))
      simp only [← hgx]
      have hgxg : g < gx := by omega
      have HLO : Hid (SortedB l') := Lib.hid (asc_sorted (by rw [HI.out.2.1]; exact mrgP_asc HAA.out))
      have hfi := find_any W2 W2.heap.size (some ⟨g, 0, none⟩) n' c' l' x.d (Blobs.of2 (hW2.at_ 1 rfl) (hW2.at_ 2 rfl) HI.out.1 HI.out.2.2.2.1) HLO.out hx.out (by omega) (Nat.le_refl _)
      clear hI HC hgx hs2 hsw hadB
      go_wp2_with (refine wl_load_any rfl 32 (.tmp 29) rfl ⟨gx, 0, none⟩ rfl (x.d.map bv) _ (Cells.sub (hW2.at_ 0 rfl) 0 (bl_sub0 x)) Tryz.underlying32 rfl (by rw [List.length_map, hx.out]; kernel_rfl) ?_)
      refine hfi.mono ?_
      clear hfi
      rintro e w4 ⟨rfl, hb4⟩
      have hW4 := hW2.call hb4
      clear hb4 hW2
      have hpl := placeB_le l' x.d
      rw [HI.out.1] at hpl
      cases hlk : lookB l' x.d with
      | none =>
        have hla : lookP (la.map pr) x.d = none := by
          have h1 := HFR.out
          rw [← HI.out.2.1, lookP_pr, show (pr x).1 = x.d from rfl, hlk] at h1
          exact h1.symm
        have HM : Hid (misP (la.map pr) ((lb.map pr).take (k + 1)) = false) := Lib.hid (by rw [HTK.out]; exact misP_none HI.out.2.2.1 hla)
        have hpu : mrgP (la.map pr) ((lb.map pr).take (k + 1)) = (l'.map pr).take (placeB l' x.d) ++ (x.d, x.b) :: (l'.map pr).drop (placeB l' x.d) := by
          rw [HTK.out, mrgP_snoc, ← HI.out.2.1, show pr x = (x.d, x.b) from rfl, putP_new (by rw [lookP_pr, hlk]; rfl), map_pr_fst, ← placeB_map]
        have HPU := Lib.hid hpu
        clear hla hpu hlk
        have hpl2 : Hid (placeB l' x.d ≤ n') := Lib.hid hpl
        generalize placeB l' x.d = j at *
        have hdu := duplicate_any w4 B x (HBL.out w4 ⟨hW4.at_ 3 rfl, trivial⟩) hxn.out (hW4.at_ 3 rfl : _ ∧ B ≤ w4.heap.size).2
        have hg4 : g < w4.heap.size := Cells.lt (hW4.at_ 1 rfl)
        go_wp2_with (refine wl_load_any rfl 51 (.tmp 8) rfl ⟨gx, 0, none⟩ rfl (blC x) _ (Cells.sub (hW4.at_ 0 rfl) 0 (fun j u h => by rwa [Nat.zero_add])) Tryz.underlying51 rfl (by rw [blC_len hx.out]; kernel_rfl) ?_)
        refine hdu.mono ?_
        clear hdu
        rintro e w5 ⟨gd, hgd1, hgd2, rfl, hcd, hb5⟩
        have hW5 := hW4.call hb5
        have hxd : (blC ⟨x.d, some ⟨gd, 0, none⟩, x.n, x.n, x.b⟩).length = 33 := blC_len (x := ⟨x.d, some ⟨gd, 0, none⟩, x.n, x.n, x.b⟩) hx.out
        have hgdg : g < gd := by omega
        have hV5 : All w5 [.cells gd 5 (x.b.map bv), .cells g 51 cs, .dat g0 l', .low (.blobs B (some ad) nb lb), .kept w w.heap.size] := ⟨hcd, hW5.2⟩
        obtain ⟨g2, hg2⟩ : ∃ g2, g2 = w5.heap.size := ⟨_, rfl⟩
        have hV6 := hV5.new (g := g2) (l := blC ⟨x.d, some ⟨gd, 0, none⟩, x.n, x.n, x.b⟩) (blC ⟨x.d, some ⟨gd, 0, none⟩, x.n, x.n, x.b⟩).toArray 51 hg2 rfl
        have hgd3 : gd < g2 := by rw [hg2]; exact hgd2
        clear hW5 hW4 hcd hb5 hV5 hgd1 hgd2 hg4
        go_wp2_with (refine wl_lit1 el_bl rfl (.tmp 39) rfl (blC ⟨x.d, some ⟨gd, 0, none⟩, x.n, x.n, x.b⟩) rfl hxd (by decide) ?_; refine wl_gen hV6 ?_; intro w6 hV7)
        simp only [← hg2]
        clear hg2 hV6
        have hV6 := hV7
        clear hV7
        have hDX := dat_at (hV6.at_ 3 rfl)
        have hins := Insert_gen w6 [.cells gd 5 (x.b.map bv), .dat g0 l', .low (.blobs B (some ad) nb lb), .kept w w.heap.size] g g2 n' c' j cs l' ⟨x.d, some ⟨gd, 0, none⟩, x.n, x.n, x.b⟩ ⟨hV6.at_ 2 rfl, hV6.at_ 0 rfl, hV6.at_ 1 rfl, hV6.at_ 3 rfl, hV6.at_ 4 rfl, hV6.at_ 5 rfl, trivial⟩
          ⟨by simp [Res.apart]; omega, dat_ne HI.out.2.2.2.2.2.2.2, by simp [Res.apart, Low.blobs]; omega, by simp [Res.apart]; omega, trivial⟩
          (fun q hq => ⟨by have := Cells.lt (hV6.at_ 1 rfl); simp [Res.apart]; omega, dat_far (hV6.at_ 3 rfl) hq, by have hz : B ≤ w6.heap.size := (hV6.at_ 4 rfl : Blobs w6 B (some ad) nb lb ∧ B ≤ w6.heap.size).2; simp [Res.apart, Low.blobs]; omega, by have hz : w.heap.size ≤ w6.heap.size := (hV6.at_ 5 rfl : Below w.heap.size w w6 ∧ w.heap.size ≤ w6.heap.size).2; simp [Res.apart]; omega, trivial⟩)
          (by omega) HI.out.2.2.2.2.1 HI.out.2.2.2.2.2.1 HI.out.2.2.2.2.2.2.1 HI.out.2.2.2.1 HI.out.1 (fun y hy => (dat_get (hV6.at_ 3 rfl) y hy).d32) hx.out hpl (by omega)
        refine hins.mono ?_
        clear hins
        rintro e w7 ⟨g', c2, cs', rfl, hg', hnc', hcm', hlc', htc', hW7⟩
        have hgx' := Cells.lt (hV6.at_ 1 rfl)
        have h32 : ∀ y ∈ l', y.d.length = 32 := fun y hy => (dat_get (hV6.at_ 3 rfl) y hy).d32
        have hgl : g < w6.heap.size := Cells.lt (hV6.at_ 2 rfl)
        have HK : Hid ((l'.take j ++ ⟨x.d, some ⟨gd, 0, none⟩, x.n, x.n, x.b⟩ :: l'.drop j).length = n' + 1 ∧ (l'.take j ++ ⟨x.d, some ⟨gd, 0, none⟩, x.n, x.n, x.b⟩ :: l'.drop j).map pr = mrgP (la.map pr) ((lb.map pr).take (k + 1)) ∧ misP (la.map pr) ((lb.map pr).take (k + 1)) = false ∧ cs'.take ((n' + 1) * 33) = ((l'.take j ++ ⟨x.d, some ⟨gd, 0, none⟩, x.n, x.n, x.b⟩ :: l'.drop j).map blC).flatten ∧ cs'.length = c2 * 33 ∧ n' + 1 ≤ c2 ∧ c2 ≤ maxLen ∧ ∀ y ∈ l'.take j ++ ⟨x.d, some ⟨gd, 0, none⟩, x.n, x.n, x.b⟩ :: l'.drop j, ∀ ad, y.A = some ad → ad.block ≠ g') := Lib.hid (by
          refine ⟨ins_len HI.out.1 hpl, ?_, HM.out, htc', hlc', hnc', hcm', fun y hy ad' e => ?_⟩
          · rw [HPU.out, List.map_append, List.map_cons, List.map_take, List.map_drop]; rfl
          · rcases mem_ins0.1 hy with h | h
            · rw [h] at e
              injection e with e
              subst e
              show gd ≠ g'
              omega
            · have h1 := (hDX y h ad' e).2
              have h2 := HI.out.2.2.2.2.2.2.2 y h ad' e
              omega)
        have hD8 := dat_ins (i := j) (x := ⟨x.d, some ⟨gd, 0, none⟩, x.n, x.n, x.b⟩) (hW7.at_ 3 rfl) ⟨hx.out, cells_rd0 (hW7.at_ 2 rfl) (by rw [List.length_map]; exact HXL.out), Nat.le_refl _, by have := hxn.out; simp only [maxLen]; omega⟩ (fun ad' e => by injection e with e; subst e; exact ⟨by show g0 < gd; omega, Cells.lt (hW7.at_ 2 rfl)⟩)
        have hK8 : All w7 [.cells g' 51 cs', .dat g0 (l'.take j ++ ⟨x.d, some ⟨gd, 0, none⟩, x.n, x.n, x.b⟩ :: l'.drop j), .low (.blobs B (some ad) nb lb), .kept w w.heap.size] := ⟨hW7.at_ 0 rfl, hD8, hW7.at_ 4 rfl, hW7.at_ 5 rfl, trivial⟩
        have hgg' : g0 ≤ g' := by have := (hV6.at_ 5 rfl : _ ∧ w.heap.size ≤ w6.heap.size).2; omega
        clear hW7 hD8 hV6 hDX htc' hlc'
        go_wp2_with fail
        exact ⟨⟨k + 1, g', n' + 1, c2, _, cs', by omega, by go_num, rfl, hgg', HK, hK8⟩, by simp [intOf]; omega⟩
      | some y =>
        have hla : lookP (la.map pr) x.d = some y.b := by
          have h1 := HFR.out
          rw [← HI.out.2.1, lookP_pr, show (pr x).1 = x.d from rfl, hlk] at h1
          exact h1.symm
        have HPL := Lib.hid (place_at HLO.out hlk)
        have HM1 : Hid (y.b = x.b → misP (la.map pr) ((lb.map pr).take (k + 1)) = false) := Lib.hid (fun h => by rw [HTK.out]; exact misP_same HI.out.2.2.1 (by rw [hla, h]))
        have HM2 : Hid (y.b ≠ x.b → misP (la.map pr) (lb.map pr) = true) := Lib.hid (fun h => misP_at HMB.out hla h)
        have hpu : mrgP (la.map pr) ((lb.map pr).take (k + 1)) = l'.map pr := by
          rw [HTK.out, mrgP_snoc, ← HI.out.2.1, show pr x = (x.d, x.b) from rfl, putP_had (y := y.b) (by rw [lookP_pr, hlk]; rfl)]
        have HPU := Lib.hid hpu
        clear hla hpu hlk
        generalize placeB l' x.d = j at *
        obtain ⟨hjl, hjy⟩ := List.getElem?_eq_some_iff.1 HPL.out
        have hjn : j < n' := by rw [← HI.out.1]; exact hjl
        have hbo := Blobs.of2 (hW4.at_ 1 rfl) (hW4.at_ 2 rfl) HI.out.1 HI.out.2.2.2.1
        have hyk := hbo.each y (hjy ▸ List.getElem_mem hjl)
        have q4 : w4.cell? ⟨g, j * 33 + 32, none⟩ = some (.slice y.A y.n y.c) := by
          obtain ⟨ad', e, _, h⟩ := Els.elem hbo.els hjl
          injection e with e
          subst e
          rw [hjy] at h
          have := h 32 _ (bl_last hyk.d32)
          rwa [add_lit, add_lit, Nat.zero_add] at this
        have q5 : w4.cell? ⟨gx, 32, none⟩ = some (.slice x.A x.n x.c) := by
          have h1 := bl_last hx.out
          have h2 := (List.getElem?_eq_some_iff.1 h1).1
          rw [Cells.cell (hW4.at_ 0 rfl) h2]
          rw [List.getElem?_eq_getElem h2] at h1
          exact h1
        have heq := bytesEqual_any w4.drew w4.heap.size y.A x.A y.n x.n y.c x.c y.b x.b hyk.rd.drew ((HBL.out w4 ⟨hW4.at_ 3 rfl, trivial⟩).rd.mono (hW4.at_ 3 rfl : _ ∧ B ≤ w4.heap.size).2).drew
        have wj0 : (0 : Int) ≤ (j : Int) := by omega
        have wj1 : (j : Int) < (n' : Int) := by omega
        have wj2 : ((j : Int)).toNat = j := by omega
        clear hbo hyk hjy
        go_upto_region 10 with (fail)
        refine wp_region_still_tail 7 (by kernel_rfl) (by kernel_rfl) ?_
        simp only [List.take_succ_cons, List.take_zero, List.drop_succ_cons, List.drop_zero]
        repeat still_step
        refine wpStill_nil ?_
        change wpList _ _ _ _ _ w4.drew
        have hW5 := hW4.drew
        clear hW4 q4 q5
        generalize w4.drew = w5 at *
        go_wp2_with fail
        refine heq.mono ?_
        clear heq
        rintro e w6 ⟨rfl, rfl⟩
        by_cases hyx : y.b = x.b
        · have d5 : decide (y.b = x.b) = true := decide_eq_true hyx
          have HM := Lib.hid (HM1.out hyx)
          clear hyx
          have HK : Hid (l'.length = n' ∧ l'.map pr = mrgP (la.map pr) ((lb.map pr).take (k + 1)) ∧ misP (la.map pr) ((lb.map pr).take (k + 1)) = false ∧ cs.take (n' * 33) = (l'.map blC).flatten ∧ cs.length = c' * 33 ∧ n' ≤ c' ∧ c' ≤ maxLen ∧ ∀ x ∈ l', ∀ ad, x.A = some ad → ad.block ≠ g) := Lib.hid ⟨HI.out.1, HPU.out.symm, HM.out, HI.out.2.2.2⟩
          have hK8 : All w5 [.cells g 51 cs, .dat g0 l', .low (.blobs B (some ad) nb lb), .kept w w.heap.size] := hW5.2
          clear hW5
          go_wp2_with fail
          exact ⟨⟨k + 1, g, n', c', l', cs, by omega, by go_num, rfl, hgg, HK, hK8⟩, by simp [intOf]; omega⟩
        · have d5 : decide (y.b = x.b) = false := decide_eq_false hyx
          have HF := Lib.hid (merge3_mis HVA.out HVB.out (HM2.out hyx))
          clear hyx
          go_wp2_with fail
          go_ret2
          exact ⟨none, 0, 0, [], by rw [HF.out]; rfl, Blobs.nil, Nat.le_refl _, by decide, by rw [HF.out]; rfl, (hW5.at_ 4 rfl : _ ∧ _).1⟩
    · obtain rfl : k = nb := by omega
      have d1 : decide ((k : Int) < (k : Int)) = false := by simp
      have htk : (lb.map pr).take k = lb.map pr := List.take_of_length_le (by rw [List.length_map, HNB.out]; exact Nat.le_refl _)
      have HJ : Hid (l'.map pr = mrgP (la.map pr) (lb.map pr) ∧ misP (la.map pr) (lb.map pr) = false ∧ n' = (mrgP (la.map pr) (lb.map pr)).length) := Lib.hid (by
        have h1 := HI.out.2.1
        have h2 := HI.out.2.2.1
        rw [htk] at h1 h2
        exact ⟨h1, h2, by rw [← h1, List.length_map]; exact HI.out.1.symm⟩)
      clear htk hlt
      by_cases hmany : 256 < n'
      · have HF := Lib.hid (merge3_many HVA.out HVB.out HJ.out.2.1 (by rw [← HJ.out.2.2]; exact hmany))
        have d2 : decide (256 < (n' : Int)) = true := by simp; omega
        have d3 : decide (256 < n') = true := by simp; omega
        clear hmany
        go_wp2_with fail
        go_ret2
        exact ⟨none, 0, 0, [], by rw [HF.out]; rfl, Blobs.nil, Nat.le_refl _, by decide, by rw [HF.out]; rfl, (hI.at_ 3 rfl : _ ∧ _).1⟩
      · have HF := Lib.hid (merge3_ok HVA.out HVB.out HJ.out.2.1 (by rw [← HJ.out.2.2]; exact hmany))
        have d2 : decide (256 < (n' : Int)) = false := by simp; omega
        have d3 : decide (256 < n') = false := by simp; omega
        clear hmany
        go_wp2_with fail
        go_ret2
        exact ⟨some ⟨g, 0, none⟩, n', c', l', by rw [HF.out]; rfl, Blobs.of2 (hI.at_ 0 rfl) (hI.at_ 1 rfl) HI.out.1 HI.out.2.2.2.1, HI.out.2.2.2.2.2.1, HI.out.2.2.2.2.2.2.1, by rw [HF.out]; exact HJ.out.1, (hI.at_ 3 rfl : _ ∧ _).1⟩
end Go.Proofs.YtkcmaembpfakdaaGreatDoor
set_option linter.unusedSimpArgs false
set_option linter.unusedVariables false
set_option maxRecDepth 100000
namespace Go.Proofs.YtkcmaembpfakdaaGreatDoor
open Go Go.RowKit Go.Adm

set_option maxHeartbeats 6400000 in
theorem refMerge_any (w : World) (B : Nat) (Aa Ab : Option Addr) (na nb ca cb : Nat) (la lb : List Bl) (ha : Blobs w B Aa na la) (hb : Blobs w B Ab nb lb) (hna : na ≤ 1000000) (hnb : nb ≤ 1000000) (hB : B ≤ w.heap.size) (hba : ∀ x ∈ la, x.n ≤ 140737488355000) (hbb : ∀ x ∈ lb, x.n ≤ 140737488355000) :
    Calls Tryz.prog 21 #[.slice Aa na ca, .slice Ab nb cb] w (MrgPost la lb w) := by
  have hR : All w [.low (.blobs B Aa na la), .low (.blobs B Ab nb lb), .kept w w.heap.size] := ⟨⟨ha, hB⟩, ⟨hb, hB⟩, ⟨Below.refl _ _, Nat.le_refl _⟩, trivial⟩
  have HNA := Lib.hid ha.len
  have HNB := Lib.hid hb.len
  have HBA := Lib.hid hba
  have HBB := Lib.hid hbb
  have hzr := zero_bl
  have hv1 := refValid_any w B Aa na ca la ha hna hB hba
  clear ha hb hba hbb
  go_enter Tryz.func21, Tryz.ntmps21
  go_upto_region 1 with (fail)
  go_wp2_with fail
  refine hv1.mono ?_
  clear hv1
  rintro e w1 ⟨rfl, hb1⟩
  have hW1 := hR.call hb1
  clear hb1 hR
  cases hva : validB la with
  | false =>
    have HF := Lib.hid (merge3_bad (la := la) (lb := lb) (by rw [hva]; rfl))
    clear hva
    go_wp2_with fail
    go_ret2
    exact ⟨none, 0, 0, [], by rw [HF.out]; rfl, Blobs.nil, Nat.le_refl _, by decide, by rw [HF.out]; rfl, (hW1.at_ 2 rfl : _ ∧ _).1⟩
  | true =>
  have HVA := Lib.hid hva
  clear hva
  have hv2 := refValid_any w1 B Ab nb cb lb (hW1.at_ 1 rfl : Blobs w1 B Ab nb lb ∧ _).1 hnb (hW1.at_ 1 rfl : _ ∧ B ≤ w1.heap.size).2 HBB.out
  go_wp2_with fail
  refine hv2.mono ?_
  clear hv2
  rintro e w2 ⟨rfl, hb2⟩
  have hW2 := hW1.call hb2
  clear hb2 hW1
  cases hvb : validB lb with
  | false =>
    have HF := Lib.hid (merge3_bad (la := la) (lb := lb) (by rw [hvb, HVA.out]; rfl))
    clear hvb
    go_wp2_with fail
    go_ret2
    exact ⟨none, 0, 0, [], by rw [HF.out]; rfl, Blobs.nil, Nat.le_refl _, by decide, by rw [HF.out]; rfl, (hW2.at_ 2 rfl : _ ∧ _).1⟩
  | true =>
  have HVB := Lib.hid hvb
  clear hvb
  have hla := (hW2.at_ 0 rfl : Blobs w2 B Aa na la ∧ B ≤ w2.heap.size)
  have hla2 : B ≤ w2.heap.size := hla.2
  have hww2 : w.heap.size ≤ w2.heap.size := (hW2.at_ 2 rfl : Below w.heap.size w w2 ∧ w.heap.size ≤ w2.heap.size).2
  have h256 : na ≤ 256 := by have h1 := validB_len HVA.out; have h2 := HNA.out; omega
  have hn256 : nb ≤ 256 := by have h1 := validB_len HVB.out; have h2 := HNB.out; omega
  have hfl : ∀ u ∈ (la.map blC).flatten, u.oneCell' = true := fun v hv => by
    obtain ⟨q, hq, hv⟩ := List.mem_flatten.1 hv
    obtain ⟨y, _, rfl⟩ := List.mem_map.1 hq
    exact blC_one y v hv
  have hown : All (w2.alloc (.cells #[] 51)) [.own w2.heap.size 51 33 (some ⟨w2.heap.size, 0, none⟩) 0 0 [], .low (.blobs B Aa na la), .low (.blobs B Ab nb lb), .kept w w.heap.size] := ⟨Go.Adm.Own.lit w2 #[] 0 (Nat.le_refl _) (by decide) rfl, hW2.alloc _⟩
  go_wp2_with (at_builtin; refine wl_app_at el_bl hown 0 rfl (.tmp 18) (.tmp 19) rfl w2.heap.size _ _ _ _ rfl rfl B _ na ca (la.map blC).flatten rfl (hla.1.els.rd.alloc hla.2 _) hfl (by omega) (by simp) (fun q hq _ => ⟨by simp [Res.apart, Low.blobs]; omega, by simp [Res.apart, Low.blobs]; omega, by simp [Res.apart]; omega, trivial⟩) ?_; intro A3 c3 w3 hW3 hs3; simp only [List.set_cons_zero, Nat.zero_add, List.nil_append] at hW3)
  have hO3 : Go.Adm.Own w3 w2.heap.size 51 33 A3 na c3 (la.map blC).flatten := hW3.at_ 0 rfl
  have hbl3 : Blobs w3 w3.heap.size A3 na la := by
    have h1 := (hW3.at_ 1 rfl : Blobs w3 B Aa na la ∧ B ≤ w3.heap.size)
    exact ⟨⟨hO3.rd, h1.1.els.each, h1.1.els.len⟩, fun x hx => (h1.1.each x hx).mono h1.2, h1.1.len⟩
  have hK3 : All w3 [.low (.blobs w3.heap.size A3 na la), .low (.blobs B Aa na la), .low (.blobs B Ab nb lb), .kept w w.heap.size] := ⟨⟨hbl3, Nat.le_refl _⟩, hW3.2⟩
  have hc3 := hO3.cap
  have HAA : Hid (Asc ((la.map pr).map Prod.fst)) := Lib.hid (valid_asc HVA.out)
  have HAB : Hid (Asc ((lb.map pr).map Prod.fst)) := Lib.hid (valid_asc HVB.out)
  clear hla hown hO3 hbl3 hW3 hW2 hfl
  generalize w3.heap.size = B3 at hK3
  clear hs3
  go_wp2_with fail
  go_loopw [6, 7] (fun o i wr => ∃ (k Bo no co : Nat) (Ao : Option Addr) (lo : List Bl), k ≤ nb ∧ i = .int .i64 k ∧ o = .slice Ao no co ∧ no ≤ 512 ∧ Hid (no ≤ co ∧ co ≤ maxLen ∧ lo.map pr = mrgP (la.map pr) ((lb.map pr).take k) ∧ misP (la.map pr) ((lb.map pr).take k) = false) ∧ All wr [.low (.blobs Bo Ao no lo), .low (.blobs B Aa na la), .low (.blobs B Ab nb lb), .kept w w.heap.size]) (fun _ i _ => nb - (intOf i).toNat)
  case atStart => exact ⟨0, B3, na, c3, A3, la, by omega, rfl, rfl, by omega, Lib.hid ⟨hc3.1, hc3.2, rfl, rfl⟩, hK3⟩
  case round =>
    clear hK3 hc3
    obtain ⟨k, Bo, no, co, Ao, lo, hk, rfl, rfl, hno, HI, hI⟩ := hrel
    by_cases hlt : k < nb
    · have hkl : k < lb.length := by rw [HNB.out]; exact hlt
      have hbl := (hI.at_ 2 rfl : Blobs wr B Ab nb lb ∧ B ≤ wr.heap.size)
      obtain ⟨ad, rfl, hadB, hc⟩ := Els.elem hbl.1.els hkl
      have HX : Hid (∀ W, All W [.low (.blobs Bo Ao no lo), .low (.blobs B Aa na la), .low (.blobs B (some ad) nb lb), .kept w w.heap.size] → ∀ q s, (blC lb[k])[q]? = some s → W.cell? ((ad.add (k * 33)).add q) = some s) := Lib.hid (fun W hW => by
        obtain ⟨ad', e, _, hc⟩ := Els.elem (hW.at_ 2 rfl : Blobs W B (some ad) nb lb ∧ B ≤ W.heap.size).1.els hkl
        obtain rfl := Option.some.inj e
        exact hc)
      have hx := Lib.hid (hbl.1.each _ (List.getElem_mem hkl)).d32
      have HXR : Hid (∀ W, All W [.low (.blobs Bo Ao no lo), .low (.blobs B Aa na la), .low (.blobs B (some ad) nb lb), .kept w w.heap.size] → Rd W B 1 lb[k].A lb[k].n (lb[k].b.map bv)) := Lib.hid (fun W hW => ((hW.at_ 2 rfl : Blobs W B (some ad) nb lb ∧ _).1.each _ (List.getElem_mem hkl)).rd)
      have HBO5 : Hid (∀ W, All W [.low (.blobs Bo Ao no lo), .low (.blobs B Aa na la), .low (.blobs B (some ad) nb lb), .kept w w.heap.size] → BlOk W W.heap.size lb[k]) := Lib.hid (fun W hW => ((hW.at_ 2 rfl : Blobs W B (some ad) nb lb ∧ _).1.each _ (List.getElem_mem hkl)).mono (hW.at_ 2 rfl : _ ∧ B ≤ W.heap.size).2)
      have HTK : Hid ((lb.map pr).take (k + 1) = (lb.map pr).take k ++ [pr lb[k]]) := Lib.hid (by
        rw [List.take_succ_eq_append_getElem (by rw [List.length_map]; exact hkl), List.getElem_map])
      have HMB : Hid (pr lb[k] ∈ lb.map pr) := Lib.hid (List.mem_map_of_mem (List.getElem_mem hkl))
      have HFR : Hid (lookP (mrgP (la.map pr) ((lb.map pr).take k)) (pr lb[k]).1 = lookP (la.map pr) (pr lb[k]).1) := Lib.hid (lookP_far (by
        have := take_fresh HAB.out (k := k) (by rw [List.length_map]; exact hkl)
        rwa [List.getElem_map] at this))
      clear hc hbl
      generalize lb[k] = x at *
      have d1 : decide ((k : Int) < (nb : Int)) = true := by simp; omega
      have wk0 : (0 : Int) ≤ (k : Int) := by omega
      have wk1 : (k : Int) < (nb : Int) := by omega
      have wk2 : ((k : Int)).toNat = k := by omega
      have hge := refGet_any wr B Aa na ca la x.d (hI.at_ 1 rfl : Blobs wr B Aa na la ∧ _).1 hx.out hna (hI.at_ 1 rfl : _ ∧ B ≤ wr.heap.size).2
      go_wp2_with (refine wl_load_any rfl 32 (.tmp 32) rfl (ad.add (k * 33)) rfl (x.d.map bv) _ (fun q s hs => HX.out wr hI q s (by have := bl_sub0 x q s hs; rwa [Nat.zero_add] at this)) Tryz.underlying32 rfl (by rw [List.length_map, hx.out]; kernel_rfl) ?_)
      refine hge.mono ?_
      clear hge
      rintro e w2 ⟨rfl, hb2⟩
      have hW2 := hI.call hb2
      clear hb2 hI hadB
      cases hlk : lookB la x.d with
      | none =>
        have hla : lookP (la.map pr) x.d = none := by rw [lookP_pr, hlk]; rfl
        have HM : Hid (misP (la.map pr) ((lb.map pr).take (k + 1)) = false) := Lib.hid (by rw [HTK.out]; exact misP_none HI.out.2.2.2 hla)
        have hpu : mrgP (la.map pr) ((lb.map pr).take (k + 1)) = (lo.map pr).take (placeB lo x.d) ++ (x.d, x.b) :: (lo.map pr).drop (placeB lo x.d) := by
          have h1 := HFR.out
          rw [show (pr x).1 = x.d from rfl, hla] at h1
          rw [HTK.out, mrgP_snoc, show pr x = (x.d, x.b) from rfl, putP_new h1, ← HI.out.2.2.1, map_pr_fst, ← placeB_map]
        have HPU := Lib.hid hpu
        clear hla hpu hlk
        unfold got
        go_upto_region 8 with (fail)
        refine wp_region_hopsH 11 (37 :: 38 :: 39 :: 40 :: 41 :: 42 :: 43 :: 44 :: 45 :: 46 :: 47 :: []) [.low (.blobs Bo Ao no lo), .low (.blobs B Aa na la), .low (.blobs B (some ad) nb lb), .kept w w.heap.size]
          (.eq (.bool false) :: .eq (.bool false) :: .eq undef :: .eq undef :: .eq undef :: .eq undef :: .eq undef :: .eq undef :: .eq undef :: .eq undef :: .eq undef :: [])
          (by kernel_rfl) (by kernel_rfl) hW2 rfl ?hops ?fin
        case hops =>
          refine ⟨?_, ?_, ?_, ?_, ?_, ?_, ?_, ?_, ?_, ?_, ?_, trivial⟩
          · intro a W hW hb hd K hK
            have b9 := hb 9 rfl
            go_simp
            exact hK _ _ (World.grownBy.refl _ _) rfl
          · intro a W hW hb hd K hK
            have b37 : a.tmps[37]?.getD undef = _ := hd ⟨0, .data⟩ (by simp) rfl
            go_simp
            exact hK _ _ (World.grownBy.refl _ _) rfl
          · exact Or.inr ⟨fun v w h => by rw [show v = _ from h]; first | (intro h2; cases h2) | (simp [undef]), fun w => rfl⟩
          · exact Or.inr ⟨fun v w h => by rw [show v = _ from h]; first | (intro h2; cases h2) | (simp [undef]), fun w => rfl⟩
          · exact Or.inr ⟨fun v w h => by rw [show v = _ from h]; first | (intro h2; cases h2) | (simp [undef]), fun w => rfl⟩
          · exact Or.inr ⟨fun v w h => by rw [show v = _ from h]; first | (intro h2; cases h2) | (simp [undef]), fun w => rfl⟩
          · exact Or.inr ⟨fun v w h => by rw [show v = _ from h]; first | (intro h2; cases h2) | (simp [undef]), fun w => rfl⟩
          · exact Or.inr ⟨fun v w h => by rw [show v = _ from h]; first | (intro h2; cases h2) | (simp [undef]), fun w => rfl⟩
          · exact Or.inr ⟨fun v w h => by rw [show v = _ from h]; first | (intro h2; cases h2) | (simp [undef]), fun w => rfl⟩
          · exact Or.inr ⟨fun v w h => by rw [show v = _ from h]; first | (intro h2; cases h2) | (simp [undef]), fun w => rfl⟩
          · exact Or.inr ⟨fun v w h => by rw [show v = _ from h]; first | (intro h2; cases h2) | (simp [undef]), fun w => rfl⟩
        case fin =>
          intro vs V hV hv
          have e1 : vs 1 = _ := hv 1 (by decide)
          clear hv hW2
          simp only [putAll, List.drop_succ_cons, List.drop_zero, e1, Act.put, List.setIfInBounds_toArray, List.set_cons_succ, List.set_cons_zero]
          clear e1
          have hbo := (hV.at_ 0 rfl : Blobs V Bo Ao no lo ∧ Bo ≤ V.heap.size)
          have hins := insert_any V Bo Ao no co lo x hbo.1 hx.out (by omega) HI.out.1 hbo.2
          have hplc : placeB lo x.d ≤ no := by have := placeB_le lo x.d; rw [hbo.1.len] at this; exact this
          clear hbo
          go_wp2_with (refine wl_load_any rfl 51 (.tmp 54) rfl (ad.add (k * 33)) rfl (blC x) _ (HX.out V hV) Tryz.underlying51 rfl (by rw [blC_len hx.out]; kernel_rfl) ?_)
          refine hins.mono ?_
          clear hins
          rintro e w5 ⟨A5, c5, rfl, ho5, hb5⟩
          have hW5 := hV.call hb5
          have hbo5 := (hW5.at_ 0 rfl : Blobs w5 Bo Ao no lo ∧ Bo ≤ w5.heap.size)
          have hbl5 := blobs_ins (B := w5.heap.size) (l := lo) (x := x) (i := placeB lo x.d) (Nat.le_refl _) (hbo5.1.mono hbo5.2) (HBO5.out w5 hW5) hplc ho5
          have hK5 : All w5 [.low (.blobs w5.heap.size A5 (no + 1) (lo.take (placeB lo x.d) ++ x :: lo.drop (placeB lo x.d))), .low (.blobs B Aa na la), .low (.blobs B (some ad) nb lb), .kept w w.heap.size] := ⟨⟨hbl5, Nat.le_refl _⟩, hW5.2⟩
          have HI5 : Hid (no + 1 ≤ c5 ∧ c5 ≤ maxLen ∧ (lo.take (placeB lo x.d) ++ x :: lo.drop (placeB lo x.d)).map pr = mrgP (la.map pr) ((lb.map pr).take (k + 1)) ∧ misP (la.map pr) ((lb.map pr).take (k + 1)) = false) := Lib.hid ⟨ho5.cap.1, ho5.cap.2, by rw [HPU.out, List.map_append, List.map_cons, List.map_take, List.map_drop]; rfl, HM.out⟩
          have hno5 : no + 1 ≤ 512 := by
            have h1 := congrArg List.length HI5.out.2.2.1
            rw [List.length_map, hbl5.len] at h1
            have h2 := mrgP_len (Pa := la.map pr) (Pb := (lb.map pr).take (k + 1))
            rw [List.length_map, List.length_take, List.length_map] at h2
            have h3 := validB_len HVA.out
            have h4 := validB_len HVB.out
            omega
          clear hbo5 hbl5 hW5 hV ho5 hb5 hplc
          generalize lo.take (placeB lo x.d) ++ x :: lo.drop (placeB lo x.d) = l5 at *
          generalize w5.heap.size = B5 at hK5
          go_wp2_with fail
          exact ⟨⟨k + 1, B5, no + 1, c5, A5, l5, by omega, by go_num, rfl, hno5, HI5, hK5⟩, by simp [intOf]; omega⟩
      | some y =>
        have hla : lookP (la.map pr) x.d = some y.b := by rw [lookP_pr, hlk]; rfl
        have hym := lookB_mem hlk
        have HYR : Hid (∀ W, All W [.low (.blobs Bo Ao no lo), .low (.blobs B Aa na la), .low (.blobs B (some ad) nb lb), .kept w w.heap.size] → Rd W B 1 y.A y.n (y.b.map bv)) := Lib.hid (fun W hW => ((hW.at_ 1 rfl : Blobs W B Aa na la ∧ _).1.each _ hym).rd)
        have HM1 : Hid (y.b = x.b → misP (la.map pr) ((lb.map pr).take (k + 1)) = false) := Lib.hid (fun h => by rw [HTK.out]; exact misP_same HI.out.2.2.2 (by rw [hla, h]))
        have HM2 : Hid (y.b ≠ x.b → misP (la.map pr) (lb.map pr) = true) := Lib.hid (fun h => misP_at HMB.out hla h)
        have hpu : mrgP (la.map pr) ((lb.map pr).take (k + 1)) = mrgP (la.map pr) ((lb.map pr).take k) := by
          have h1 := HFR.out
          rw [show (pr x).1 = x.d from rfl, hla] at h1
          rw [HTK.out, mrgP_snoc, show pr x = (x.d, x.b) from rfl, putP_had h1]
        have HPU := Lib.hid hpu
        obtain ⟨sx, hsx⟩ : ∃ s : ByteArray, s = ⟨x.b.toArray⟩ := ⟨_, rfl⟩
        obtain ⟨sy, hsy⟩ : ∃ s : ByteArray, s = ⟨y.b.toArray⟩ := ⟨_, rfl⟩
        have HSX := Lib.hid hsx
        have HSY := Lib.hid hsy
        have hbe : ∀ v : Bool, decide (y.b = x.b) = v → ((sy.data.toList == sx.data.toList) = v) ∧ ((sy.toList == sx.toList) = v) := fun v h => by
          rw [hsx, hsy, ByteArray.toList_eq, ByteArray.toList_eq]
          by_cases e : y.b = x.b
          · rw [decide_eq_true e] at h; subst h; simp [e]
          · rw [decide_eq_false e] at h; subst h; simp [e]
        have HBE := Lib.hid hbe
        clear hla hpu hlk hym hsx hsy hbe
        unfold got
        by_cases hyx : y.b = x.b
        · have HM := Lib.hid (HM1.out hyx)
          have HNE := Lib.hid (HBE.out true (decide_eq_true hyx))
          clear hyx HBE HM1 HM2
          go_upto_region 8 with (fail)
          refine wp_region_hopsH 11 (37 :: 38 :: 39 :: 40 :: 41 :: 42 :: 43 :: 44 :: 45 :: 46 :: 47 :: []) [.low (.blobs Bo Ao no lo), .low (.blobs B Aa na la), .low (.blobs B (some ad) nb lb), .kept w w.heap.size]
            (.eq (.bool true) :: .eq (.bool true) :: .eq (.slice y.A y.n y.c) :: .eq (.string sy) :: .eq (.slice (some ad) nb cb) :: .eq (.int .i64 k) :: .eq (.pointer (some (ad.add (k * 33)))) :: .eq (.pointer (some ⟨(ad.add (k * 33)).block, (ad.add (k * 33)).off + 32, none⟩)) :: .eq (.slice x.A x.n x.c) :: .eq (.string sx) :: .eq (.bool false) :: [])
            (by kernel_rfl) (by kernel_rfl) hW2 rfl ?hops ?fin
          case hops =>
            refine ⟨?_, ?_, ?_, ?_, ?_, ?_, ?_, ?_, ?_, ?_, ?_, trivial⟩
            · intro a W hW hb hd K hK
              have b9 := hb 9 rfl
              go_simp
              exact hK _ _ (World.grownBy.refl _ _) rfl
            · intro a W hW hb hd K hK
              have b37 : a.tmps[37]?.getD undef = _ := hd ⟨0, .data⟩ (by simp) rfl
              go_simp
              exact hK _ _ (World.grownBy.refl _ _) rfl
            · refine Or.inl ⟨fun v w h => h, ?_⟩
              intro a W hW hb hd K hK
              have b8 := hb 8 rfl
              go_simp
              exact hK _ _ (World.grownBy.refl _ _) rfl
            · refine Or.inl ⟨fun v w h => h, ?_⟩
              intro a W hW hb hd K hK
              have b39 : a.tmps[39]?.getD undef = _ := hd ⟨2, .data⟩ (by simp) rfl
              have q1 : (convert 36 9 (.slice y.A y.n y.c)).run Tryz.prog W = .ok (.string sy) W := by rw [HSY.out]; exact conv_b (HYR.out W hW)
              go_simp
              exact hK _ _ (World.grownBy.refl _ _) rfl
            · refine Or.inl ⟨fun v w h => h, ?_⟩
              intro a W hW hb hd K hK
              have b1 := hb 1 rfl
              go_simp
              exact hK _ _ (World.grownBy.refl _ _) rfl
            · refine Or.inl ⟨fun v w h => h, ?_⟩
              intro a W hW hb hd K hK
              have b7 := hb 7 rfl
              go_simp
              exact hK _ _ (World.grownBy.refl _ _) rfl
            · refine Or.inl ⟨fun v w h => h, ?_⟩
              intro a W hW hb hd K hK
              have b41 : a.tmps[41]?.getD undef = _ := hd ⟨4, .data⟩ (by simp) rfl
              have b42 : a.tmps[42]?.getD undef = _ := hd ⟨5, .data⟩ (by simp) rfl
              go_simp
              exact hK _ _ (World.grownBy.refl _ _) rfl
            · refine Or.inl ⟨fun v w h => h, ?_⟩
              intro a W hW hb hd K hK
              have b43 : a.tmps[43]?.getD undef = _ := hd ⟨6, .data⟩ (by simp) rfl
              go_simp
              exact hK _ _ (World.grownBy.refl _ _) rfl
            · refine Or.inl ⟨fun v w h => h, ?_⟩
              intro a W hW hb hd K hK
              have b44 : a.tmps[44]?.getD undef = _ := hd ⟨7, .data⟩ (by simp) rfl
              have q1 : W.cell? ⟨(ad.add (k * 33)).block, (ad.add (k * 33)).off + 32, none⟩ = some (.slice x.A x.n x.c) := HX.out W hW 32 _ (bl_last hx.out)
              go_simp
              exact hK _ _ (World.grownBy.refl _ _) rfl
            · refine Or.inl ⟨fun v w h => h, ?_⟩
              intro a W hW hb hd K hK
              have b45 : a.tmps[45]?.getD undef = _ := hd ⟨8, .data⟩ (by simp) rfl
              have q1 : (convert 36 9 (.slice x.A x.n x.c)).run Tryz.prog W = .ok (.string sx) W := by rw [HSX.out]; exact conv_b (HXR.out W hW)
              go_simp
              exact hK _ _ (World.grownBy.refl _ _) rfl
            · refine Or.inl ⟨fun v w h => h, ?_⟩
              intro a W hW hb hd K hK
              have b40 : a.tmps[40]?.getD undef = _ := hd ⟨3, .data⟩ (by simp) rfl
              have b46 : a.tmps[46]?.getD undef = _ := hd ⟨9, .data⟩ (by simp) rfl
              have q1 := HNE.out.1
              have q2 := HNE.out.2
              go_simp
              exact hK _ _ (World.grownBy.refl _ _) rfl
          case fin =>
            intro vs V hV hv
            have e1 : vs 1 = _ := hv 1 (by decide)
            have e10 : vs 10 = _ := hv 10 (by decide)
            clear hv hW2
            simp only [putAll, List.drop_succ_cons, List.drop_zero, e1, e10, Act.put, List.setIfInBounds_toArray, List.set_cons_succ, List.set_cons_zero]
            clear e1 e10
            have HI5 : Hid (no ≤ co ∧ co ≤ maxLen ∧ lo.map pr = mrgP (la.map pr) ((lb.map pr).take (k + 1)) ∧ misP (la.map pr) ((lb.map pr).take (k + 1)) = false) := Lib.hid ⟨HI.out.1, HI.out.2.1, by rw [HPU.out]; exact HI.out.2.2.1, HM.out⟩
            go_wp2_with fail
            exact ⟨⟨k + 1, Bo, no, co, Ao, lo, by omega, by go_num, rfl, hno, HI5, hV⟩, by simp [intOf]; omega⟩
        · have HF := Lib.hid (merge3_mis HVA.out HVB.out (HM2.out hyx))
          have HNE := Lib.hid (HBE.out false (decide_eq_false hyx))
          clear hyx HBE HM1 HM2
          go_upto_region 8 with (fail)
          refine wp_region_hopsH 11 (37 :: 38 :: 39 :: 40 :: 41 :: 42 :: 43 :: 44 :: 45 :: 46 :: 47 :: []) [.low (.blobs Bo Ao no lo), .low (.blobs B Aa na la), .low (.blobs B (some ad) nb lb), .kept w w.heap.size]
            (.eq (.bool true) :: .eq (.bool true) :: .eq (.slice y.A y.n y.c) :: .eq (.string sy) :: .eq (.slice (some ad) nb cb) :: .eq (.int .i64 k) :: .eq (.pointer (some (ad.add (k * 33)))) :: .eq (.pointer (some ⟨(ad.add (k * 33)).block, (ad.add (k * 33)).off + 32, none⟩)) :: .eq (.slice x.A x.n x.c) :: .eq (.string sx) :: .eq (.bool true) :: [])
            (by kernel_rfl) (by kernel_rfl) hW2 rfl ?hops ?fin
          case hops =>
            refine ⟨?_, ?_, ?_, ?_, ?_, ?_, ?_, ?_, ?_, ?_, ?_, trivial⟩
            · intro a W hW hb hd K hK
              have b9 := hb 9 rfl
              go_simp
              exact hK _ _ (World.grownBy.refl _ _) rfl
            · intro a W hW hb hd K hK
              have b37 : a.tmps[37]?.getD undef = _ := hd ⟨0, .data⟩ (by simp) rfl
              go_simp
              exact hK _ _ (World.grownBy.refl _ _) rfl
            · refine Or.inl ⟨fun v w h => h, ?_⟩
              intro a W hW hb hd K hK
              have b8 := hb 8 rfl
              go_simp
              exact hK _ _ (World.grownBy.refl _ _) rfl
            · refine Or.inl ⟨fun v w h => h, ?_⟩
              intro a W hW hb hd K hK
              have b39 : a.tmps[39]?.getD undef = _ := hd ⟨2, .data⟩ (by simp) rfl
              have q1 : (convert 36 9 (.slice y.A y.n y.c)).run Tryz.prog W = .ok (.string sy) W := by rw [HSY.out]; exact conv_b (HYR.out W hW)
              go_simp
              exact hK _ _ (World.grownBy.refl _ _) rfl
            · refine Or.inl ⟨fun v w h => h, ?_⟩
              intro a W hW hb hd K hK
              have b1 := hb 1 rfl
              go_simp
              exact hK _ _ (World.grownBy.refl _ _) rfl
            · refine Or.inl ⟨fun v w h => h, ?_⟩
              intro a W hW hb hd K hK
              have b7 := hb 7 rfl
              go_simp
              exact hK _ _ (World.grownBy.refl _ _) rfl
            · refine Or.inl ⟨fun v w h => h, ?_⟩
              intro a W hW hb hd K hK
              have b41 : a.tmps[41]?.getD undef = _ := hd ⟨4, .data⟩ (by simp) rfl
              have b42 : a.tmps[42]?.getD undef = _ := hd ⟨5, .data⟩ (by simp) rfl
              go_simp
              exact hK _ _ (World.grownBy.refl _ _) rfl
            · refine Or.inl ⟨fun v w h => h, ?_⟩
              intro a W hW hb hd K hK
              have b43 : a.tmps[43]?.getD undef = _ := hd ⟨6, .data⟩ (by simp) rfl
              go_simp
              exact hK _ _ (World.grownBy.refl _ _) rfl
            · refine Or.inl ⟨fun v w h => h, ?_⟩
              intro a W hW hb hd K hK
              have b44 : a.tmps[44]?.getD undef = _ := hd ⟨7, .data⟩ (by simp) rfl
              have q1 : W.cell? ⟨(ad.add (k * 33)).block, (ad.add (k * 33)).off + 32, none⟩ = some (.slice x.A x.n x.c) := HX.out W hW 32 _ (bl_last hx.out)
              go_simp
              exact hK _ _ (World.grownBy.refl _ _) rfl
            · refine Or.inl ⟨fun v w h => h, ?_⟩
              intro a W hW hb hd K hK
              have b45 : a.tmps[45]?.getD undef = _ := hd ⟨8, .data⟩ (by simp) rfl
              have q1 : (convert 36 9 (.slice x.A x.n x.c)).run Tryz.prog W = .ok (.string sx) W := by rw [HSX.out]; exact conv_b (HXR.out W hW)
              go_simp
              exact hK _ _ (World.grownBy.refl _ _) rfl
            · refine Or.inl ⟨fun v w h => h, ?_⟩
              intro a W hW hb hd K hK
              have b40 : a.tmps[40]?.getD undef = _ := hd ⟨3, .data⟩ (by simp) rfl
              have b46 : a.tmps[46]?.getD undef = _ := hd ⟨9, .data⟩ (by simp) rfl
              have q1 := HNE.out.1
              have q2 := HNE.out.2
              go_simp
              exact hK _ _ (World.grownBy.refl _ _) rfl
          case fin =>
            intro vs V hV hv
            have e1 : vs 1 = _ := hv 1 (by decide)
            have e10 : vs 10 = _ := hv 10 (by decide)
            clear hv hW2
            simp only [putAll, List.drop_succ_cons, List.drop_zero, e1, e10, Act.put, List.setIfInBounds_toArray, List.set_cons_succ, List.set_cons_zero]
            clear e1 e10
            go_wp2_with fail
            go_ret2
            exact ⟨none, 0, 0, [], by rw [HF.out]; rfl, Blobs.nil, Nat.le_refl _, by decide, by rw [HF.out]; rfl, (hV.at_ 3 rfl : _ ∧ _).1⟩
    · obtain rfl : k = nb := by omega
      have d1 : decide ((k : Int) < (k : Int)) = false := by simp
      have htk : (lb.map pr).take k = lb.map pr := List.take_of_length_le (by rw [List.length_map, HNB.out]; exact Nat.le_refl _)
      have hbo := (hI.at_ 0 rfl : Blobs wr Bo Ao no lo ∧ Bo ≤ wr.heap.size)
      have HJ : Hid (lo.map pr = mrgP (la.map pr) (lb.map pr) ∧ misP (la.map pr) (lb.map pr) = false ∧ no = (mrgP (la.map pr) (lb.map pr)).length) := Lib.hid (by
        have h1 := HI.out.2.2.1
        have h2 := HI.out.2.2.2
        rw [htk] at h1 h2
        exact ⟨h1, h2, by rw [← h1, List.length_map]; exact hbo.1.len.symm⟩)
      have HB := Lib.hid (hbo.1.mono hbo.2)
      clear htk hlt hbo
      by_cases hmany : 256 < no
      · have HF := Lib.hid (merge3_many HVA.out HVB.out HJ.out.2.1 (by rw [← HJ.out.2.2]; exact hmany))
        have d2 : decide (256 < (no : Int)) = true := by simp; omega
        have d3 : decide (256 < no) = true := by simp; omega
        clear hmany
        go_wp2_with fail
        go_ret2
        exact ⟨none, 0, 0, [], by rw [HF.out]; rfl, Blobs.nil, Nat.le_refl _, by decide, by rw [HF.out]; rfl, (hI.at_ 3 rfl : _ ∧ _).1⟩
      · have HF := Lib.hid (merge3_ok HVA.out HVB.out HJ.out.2.1 (by rw [← HJ.out.2.2]; exact hmany))
        have d2 : decide (256 < (no : Int)) = false := by simp; omega
        have d3 : decide (256 < no) = false := by simp; omega
        clear hmany
        go_wp2_with fail
        go_ret2
        exact ⟨Ao, no, co, lo, by rw [HF.out]; rfl, HB.out, HI.out.1, HI.out.2.1, by rw [HF.out]; exact HJ.out.1, (hI.at_ 3 rfl : _ ∧ _).1⟩
end Go.Proofs.YtkcmaembpfakdaaGreatDoor

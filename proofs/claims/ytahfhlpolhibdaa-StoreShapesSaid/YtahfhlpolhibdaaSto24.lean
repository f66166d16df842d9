/- StoreMerges, walked. -/
import Derived.Test.YtahfhlpolhibdaaSto19
import Derived.Test.YtahfhlpolhibdaaSto23
set_option linter.unusedSimpArgs false
set_option linter.unusedVariables false
set_option maxRecDepth 100000
namespace Go.Adm
open Go Go.RowKit
theorem mem_putP {P : PrL} {d b : List UInt8} {p : List UInt8 × List UInt8} (h : p ∈ putP P d b) : p ∈ P ∨ p = (d, b) := by
  unfold putP at h
  split at h
  · exact Or.inl h
  · exact (mem_ins.1 h).symm
theorem mem_mrg : ∀ {Q P : PrL} {p : List UInt8 × List UInt8}, p ∈ mrgP P Q → p ∈ P ∨ p ∈ Q
  | [], _, _, h => Or.inl h
  | q :: Q, P, p, h => by
    rw [mrgP_cons] at h
    rcases mem_mrg h with h | h
    · rcases mem_putP h with h | h
      · exact Or.inl h
      · exact Or.inr (by rw [h]; exact List.mem_cons_self)
    · exact Or.inr (List.mem_cons_of_mem _ h)
/-- what is known of a filled store -/
structure Fil (l : List Bl) (ds : List (List UInt8)) : Prop where
  val : validB l = true
  asc : Asc ((l.map pr).map Prod.fst)
  len : l.length ≤ 12
  each : ∀ p ∈ l.map pr, p.2.length ≤ 262144
  has : ∀ d ∈ ds, d ∈ (l.map pr).map Prod.fst
theorem Fil.of {w : World} {B n : Nat} {A : Option Addr} {l : List Bl} {cs ds : List (List UInt8)} (hb : Blobs w B A n l) (hi : InvP cs (l.map pr)) (h12 : cs.length ≤ 12) (h26 : ∀ c ∈ cs, c.length ≤ 262144) (hd : ds = cs.map shaS) : Fil l ds := by
  refine ⟨inv_valid hb hi (by omega) h26, hi.asc, ?_, fun p hp => ?_, fun d hd' => ?_⟩
  · have := hi.len; rw [List.length_map] at this; omega
  · obtain ⟨c, hc, rfl⟩ := hi.frm p hp
    exact h26 c hc
  · rw [hd] at hd'
    obtain ⟨c, hc, rfl⟩ := List.mem_map.1 hd'
    exact hi.has c hc
theorem mrg_each {l la lb : List Bl} {da db : List (List UInt8)} (ha : Fil la da) (hb : Fil lb db) (h : l.map pr = mrgP (la.map pr) (lb.map pr)) : ∀ p ∈ l.map pr, p.2.length ≤ 262144 := fun p hp => by
  rw [h] at hp
  exact (mem_mrg hp).elim (ha.each p) (hb.each p)
theorem mrg_small {la lb : List Bl} {da db : List (List UInt8)} (ha : Fil la da) (hb : Fil lb db) : (mrgP (la.map pr) (lb.map pr)).length ≤ 24 := by
  have h1 := mrgP_len (Pa := la.map pr) (Pb := lb.map pr)
  rw [List.length_map, List.length_map] at h1
  have := ha.len
  have := hb.len
  omega
theorem blob_n {w : World} {B n : Nat} {A : Option Addr} {l : List Bl} (hb : Blobs w B A n l) (he : ∀ p ∈ l.map pr, p.2.length ≤ 262144) : ∀ x ∈ l, x.n ≤ 262144 := fun x hx => by
  rw [← (hb.each x hx).len]; exact he _ (pr_mem rfl hx)
theorem mrg_valid {w : World} {B n : Nat} {A : Option Addr} {l la lb : List Bl} {da db : List (List UInt8)} (hbl : Blobs w B A n l) (ha : Fil la da) (hb : Fil lb db) (h : l.map pr = mrgP (la.map pr) (lb.map pr)) : validB l = true := by
  refine validB_of ?_ (blob_n hbl (mrg_each ha hb h)) ?_
  · have h1 := congrArg List.length h
    rw [List.length_map] at h1
    have := mrg_small ha hb
    omega
  · rw [← map_pr_fst, h]; exact mrgP_asc ha.asc
theorem mrg_found {l la lb : List Bl} {da db : List (List UInt8)} (ha : Fil la da) (hb : Fil lb db) (h : l.map pr = mrgP (la.map pr) (lb.map pr)) {d : List UInt8} (hd : d ∈ da ∨ d ∈ db) : (lookB l d).isSome = true := by
  have h1 := lookP_pr l d
  rw [h, lookP_mrg (asc_nodup hb.asc)] at h1
  cases hk : lookB l d with
  | some y => rfl
  | none =>
    rw [hk] at h1
    rcases hd with hd | hd
    · cases h2 : lookP (la.map pr) d with
      | none => exact absurd (ha.has d hd) (lookP_none.1 h2)
      | some y => rw [h2] at h1; cases h1
    · cases h2 : lookP (lb.map pr) d with
      | none => exact absurd (hb.has d hd) (lookP_none.1 h2)
      | some y => rw [h2] at h1; cases h3 : lookP (la.map pr) d <;> rw [h3] at h1 <;> cases h1
end Go.Adm
namespace Go.Proofs.Ytahfhlpolhibdaa
open Go Go.RowKit Go.Adm

set_option maxHeartbeats 6400000 in
theorem walkMerges (w : World) (Ap Aq : Option Addr) (np nq cp cq : Nat) (rp rq : List (List Int)) (hp : IRows w w.heap.size Ap np rp) (hnp : np ≤ 140737488351232) (hip : ∀ r ∈ rp, IntB r) (hq : IRows w w.heap.size Aq nq rq) (hnq : nq ≤ 140737488351232) (hiq : ∀ r ∈ rq, IntB r) :
    Calls Try.prog 5 #[.slice Ap np cp, .slice Aq nq cq] w fun e w' => e = .returned (.bool true) ∧ Below w.heap.size w w' := by
  have hR : All w [.kept w w.heap.size] := ⟨⟨Below.refl _ _, Nat.le_refl _⟩, trivial⟩
  have HIQ := Lib.hid hiq
  have HQ := Lib.hid hq
  have hfp := filled_any w w.heap.size Ap np cp rp hp (Nat.le_refl _) (by omega) (fun r hr => (hip r hr).2) (fun r hr => by have := (hip r hr).1; omega)
  clear hp hip hiq hq
  go_enter Try.func5, Try.ntmps5
  go_upto_region 1 with (fail)
  go_wp2_with fail
  refine hfp.mono ?_
  clear hfp
  rintro e w1 ⟨Aa, na, ca, la, Ada, nda, cda, da, csa, rfl, hbla, hda, hnca, hcma, -, -, hiva, hcla, hc26a, hdsa, hb1⟩
  have FA := Lib.hid (Fil.of hbla hiva hcla hc26a hdsa)
  have hR1 := hR.call hb1
  have hK1 : All w1 [.low (.blobs w1.heap.size Aa na la), .low (.digs w1.heap.size Ada nda da), .kept w w.heap.size] := ⟨⟨hbla, Nat.le_refl _⟩, ⟨hda, Nat.le_refl _⟩, hR1⟩
  have hnda : nda ≤ 12 := by rw [← hda.len, hdsa, List.length_map]; exact hcla
  have hna : na ≤ 12 := by have := FA.out.len; rw [hbla.len] at this; exact this
  have HBA : Hid (∀ x ∈ la, x.n ≤ 140737488355000) := Lib.hid (fun x hx => Nat.le_trans (blob_n hbla FA.out.each x hx) (by decide))
  have hir : IRows w1 w.heap.size Aq nq rq := by
    obtain ⟨vs, h1, h2⟩ := HQ.out.rows
    exact ⟨vs, h1.below hb1 (Nat.le_refl _), h2.imp fun v L ⟨A, c, e, h⟩ => ⟨A, c, e, h.below hb1 (Nat.le_refl _)⟩⟩
  have hfq := filled_any w1 w.heap.size Aq nq cq rq hir hb1.size (by omega) (fun r hr => (HIQ.out r hr).2) (fun r hr => by have := (HIQ.out r hr).1; omega)
  generalize w1.heap.size = Ba at hK1
  clear hR hR1 hbla hda hiva hcla hc26a hdsa hb1 hir
  go_wp2_with fail
  refine hfq.mono ?_
  clear hfq
  rintro e w2 ⟨Ab, nb, cb, lb, Adb, ndb, cdb, db, csb, rfl, hblb, hdb, hncb, hcmb, -, -, hivb, hclb, hc26b, hdsb, hb2⟩
  have FB := Lib.hid (Fil.of hblb hivb hclb hc26b hdsb)
  have hR2 := hK1.call hb2
  have hK2 : All w2 [.low (.blobs w2.heap.size Ab nb lb), .low (.digs w2.heap.size Adb ndb db), .low (.blobs Ba Aa na la), .low (.digs Ba Ada nda da), .kept w w.heap.size] := ⟨⟨hblb, Nat.le_refl _⟩, ⟨hdb, Nat.le_refl _⟩, hR2⟩
  have hndb : ndb ≤ 12 := by rw [← hdb.len, hdsb, List.length_map]; exact hclb
  have hnb : nb ≤ 12 := by have := FB.out.len; rw [hblb.len] at this; exact this
  have HBB : Hid (∀ x ∈ lb, x.n ≤ 140737488355000) := Lib.hid (fun x hx => Nat.le_trans (blob_n hblb FB.out.each x hx) (by decide))
  generalize w2.heap.size = Bb at hK2
  clear hK1 hR2 hblb hdb hivb hclb hc26b hdsb hb2
  have HA2 : Hid (∀ W, All W [.low (.blobs Bb Ab nb lb), .low (.digs Bb Adb ndb db), .low (.blobs Ba Aa na la), .low (.digs Ba Ada nda da), .kept w w.heap.size] → Blobs W W.heap.size Aa na la) := Lib.hid (fun W hW => (hW.at_ 2 rfl : Blobs W Ba Aa na la ∧ _).1.mono (hW.at_ 2 rfl : _ ∧ Ba ≤ W.heap.size).2)
  have HB2 : Hid (∀ W, All W [.low (.blobs Bb Ab nb lb), .low (.digs Bb Adb ndb db), .low (.blobs Ba Aa na la), .low (.digs Ba Ada nda da), .kept w w.heap.size] → Blobs W W.heap.size Ab nb lb) := Lib.hid (fun W hW => (hW.at_ 0 rfl : Blobs W Bb Ab nb lb ∧ _).1.mono (hW.at_ 0 rfl : _ ∧ Bb ≤ W.heap.size).2)
  have hm := refMerge_any w2 w2.heap.size Aa Ab na nb ca cb la lb (HA2.out w2 hK2) (HB2.out w2 hK2) (by omega) (by omega) (Nat.le_refl _) HBA.out HBB.out
  unfold MrgPost at hm
  cases hmis : misP (la.map pr) (lb.map pr) with
  | true =>
    rw [merge3_mis FA.out.val FB.out.val hmis] at hm
    clear hmis
    go_wp2_with fail
    refine hm.mono ?_
    clear hm
    rintro e w3 ⟨A3, n3, c3, l3, rfl, -, -, -, -, hb3⟩
    have hK3 := hK2.call hb3
    clear hb3 hK2
    have haw := awake_any w3
    go_wp2_with fail
    refine haw.mono ?_
    clear haw
    rintro e w9 ⟨rfl, hb9⟩
    have hI9 := hK3.call hb9
    go_wp2_with fail
    go_ret
    exact ⟨rfl, (hI9.at_ 4 rfl : _ ∧ _).1⟩
  | false =>
  have hsm := mrg_small FA.out FB.out
  have hsm2 := mrg_small FB.out FA.out
  have hmis2 := mis_comm FA.out.asc FB.out.asc hmis
  have hcomm := mrg_comm FA.out.asc FB.out.asc hmis
  rw [merge3_ok FA.out.val FB.out.val hmis (by omega)] at hm
  have HM1 := Lib.hid (merge3_ok FA.out.val FB.out.val hmis (by omega))
  have HM2 := Lib.hid (merge3_ok FB.out.val FA.out.val hmis2 (by omega))
  rw [← hcomm] at HM2
  have HSM := Lib.hid hsm
  clear hmis hmis2 hcomm hsm hsm2
  go_wp2_with fail
  refine hm.mono ?_
  clear hm
  rintro e w3 ⟨A3, n3, c3, l3, rfl, -, -, -, -, hb3⟩
  have hK3 := hK2.call hb3
  clear hb3 hK2
  have hm := Merge_any w3 w3.heap.size Aa Ab na nb ca cb la lb (HA2.out w3 hK3) (HB2.out w3 hK3) (by omega) (by omega) (Nat.le_refl _) HBA.out HBB.out
  unfold MrgPost at hm
  rw [HM1.out] at hm
  go_wp2_with fail
  refine hm.mono ?_
  clear hm
  rintro e w4 ⟨Ax, nx, cx, lx, rfl, hblx, hncx, hcmx, hprx, hb4⟩
  have hK4 := hK3.call hb4
  have hX4 : All w4 (.low (.blobs w4.heap.size Ax nx lx) :: _) := ⟨⟨hblx, Nat.le_refl _⟩, hK4⟩
  have hnx : nx ≤ 24 := by
    have h1 := congrArg List.length hprx
    rw [List.length_map, hblx.len] at h1
    have := HSM.out
    omega
  have HVX := Lib.hid (mrg_valid hblx FA.out FB.out hprx)
  have HBX : Hid (∀ x ∈ lx, x.n ≤ 140737488355000) := Lib.hid (fun x hx => Nat.le_trans (blob_n hblx (mrg_each FA.out FB.out hprx) x hx) (by decide))
  have HPX := Lib.hid hprx
  generalize w4.heap.size = Bx at hX4
  clear hK3 hK4 hb4 hblx hprx
  have hm := Merge_any w4 w4.heap.size Ab Aa nb na cb ca lb la (HB2.out w4 hX4.2) (HA2.out w4 hX4.2) (by omega) (by omega) (Nat.le_refl _) HBB.out HBA.out
  unfold MrgPost at hm
  rw [HM2.out] at hm
  go_wp2_with fail
  refine hm.mono ?_
  clear hm
  rintro e w5 ⟨Ay, ny, cy, ly, rfl, hbly, hncy, hcmy, hpry, hb5⟩
  have hX5 := hX4.call hb5
  have hY5 : All w5 (.low (.blobs w5.heap.size Ay ny ly) :: _) := ⟨⟨hbly, Nat.le_refl _⟩, hX5⟩
  have HPY : Hid (ly.map pr = mrgP (la.map pr) (lb.map pr) ∧ ny = nx) := Lib.hid ⟨hpry, by
    have h1 := congrArg List.length (hpry.trans HPX.out.symm)
    rw [List.length_map, List.length_map, hbly.len] at h1
    rw [h1]; exact (hX5.at_ 0 rfl : Blobs w5 Bx Ax nx lx ∧ _).1.len⟩
  generalize w5.heap.size = By at hY5
  clear hX4 hX5 hb5 hbly hpry
  have hmz : merge3 lx la = (mrgP (la.map pr) (lb.map pr), 0) := by
    have h1 : misP (lx.map pr) (la.map pr) = false := by rw [HPX.out]; exact mis_mrg FA.out.asc FB.out.asc
    have h2 : mrgP (lx.map pr) (la.map pr) = mrgP (la.map pr) (lb.map pr) := by rw [HPX.out]; exact mrg_idem FA.out.asc FB.out.asc
    rw [merge3_ok HVX.out FA.out.val h1 (by rw [h2]; have := HSM.out; omega), h2]
  have hm := Merge_any w5 w5.heap.size Ax Aa nx na cx ca lx la ((hY5.at_ 1 rfl : Blobs w5 Bx Ax nx lx ∧ _).1.mono (hY5.at_ 1 rfl : _ ∧ Bx ≤ w5.heap.size).2) (HA2.out w5 hY5.2.2) (by omega) (by omega) (Nat.le_refl _) HBX.out HBA.out
  unfold MrgPost at hm
  rw [hmz] at hm
  clear hmz
  go_wp2_with fail
  refine hm.mono ?_
  clear hm
  rintro e w6 ⟨Az, nz, cz, lz, rfl, hblz, hncz, hcmz, hprz, hb6⟩
  have hY6 := hY5.call hb6
  have hZ6 : All w6 (.low (.blobs w6.heap.size Az nz lz) :: _) := ⟨⟨hblz, Nat.le_refl _⟩, hY6⟩
  have HPZ : Hid (lz.map pr = mrgP (la.map pr) (lb.map pr) ∧ nz = nx) := Lib.hid ⟨hprz, by
    have h1 := congrArg List.length (hprz.trans HPX.out.symm)
    rw [List.length_map, List.length_map, hblz.len] at h1
    rw [h1]; exact (hY6.at_ 1 rfl : Blobs w6 Bx Ax nx lx ∧ _).1.len⟩
  generalize w6.heap.size = Bz at hZ6
  clear hY5 hY6 hb6 hblz hprz
  obtain ⟨ey, rfl⟩ := HPY.out
  obtain ⟨ez, ez2⟩ := HPZ.out
  obtain rfl : nz = ny := ez2
  have hsa := Same_true w6 w6.heap.size Ax Ay nz cx cy lx ly ((hZ6.at_ 2 rfl : Blobs w6 Bx Ax nz lx ∧ _).1.mono (hZ6.at_ 2 rfl : _ ∧ Bx ≤ w6.heap.size).2) ((hZ6.at_ 1 rfl : Blobs w6 By Ay nz ly ∧ _).1.mono (hZ6.at_ 1 rfl : _ ∧ By ≤ w6.heap.size).2) (by rw [HPX.out, ey]) (by omega) (Nat.le_refl _)
  clear ey ez
  go_wp2_with fail
  refine hsa.mono ?_
  clear hsa
  rintro e w7 ⟨rfl, hb7⟩
  have hZ7 := hZ6.call hb7
  clear hZ6 hb7
  have hsa := Same_true w7 w7.heap.size Ax Az nz cx cz lx lz ((hZ7.at_ 2 rfl : Blobs w7 Bx Ax nz lx ∧ _).1.mono (hZ7.at_ 2 rfl : _ ∧ Bx ≤ w7.heap.size).2) ((hZ7.at_ 0 rfl : Blobs w7 Bz Az nz lz ∧ _).1.mono (hZ7.at_ 0 rfl : _ ∧ Bz ≤ w7.heap.size).2) (by rw [HPX.out, HPZ.out.1]) (by omega) (Nat.le_refl _)
  go_wp2_with fail
  refine hsa.mono ?_
  clear hsa
  rintro e w8 ⟨rfl, hb8⟩
  have hZ8 := hZ7.call hb8
  clear hZ7 hb8
  have hK0 : All w8 [.low (.blobs Bx Ax nz lx), .low (.digs Ba Ada nda da), .low (.digs Bb Adb ndb db), .kept w w.heap.size] := ⟨hZ8.at_ 2 rfl, hZ8.at_ 6 rfl, hZ8.at_ 4 rfl, hZ8.at_ 7 rfl, trivial⟩
  have Hda : Hid (∀ d ∈ da, (lookB lx d).isSome = true) := Lib.hid (fun d hd => mrg_found FA.out FB.out HPX.out (Or.inl hd))
  have Hdb : Hid (∀ d ∈ db, (lookB lx d).isSome = true) := Lib.hid (fun d hd => mrg_found FA.out FB.out HPX.out (Or.inr hd))
  clear hZ8
  obtain ⟨nx, rfl⟩ : ∃ nx, nx = nz := ⟨_, rfl⟩
  go_wp2_with fail
  go_loopw [17] (fun i wr => ∃ k : Nat, k ≤ nda ∧ i = .int .i64 k ∧ All wr [.low (.blobs Bx Ax nx lx), .low (.digs Ba Ada nda da), .low (.digs Bb Adb ndb db), .kept w w.heap.size]) (fun i _ => nda - (intOf i).toNat)
  case atStart => exact ⟨0, by omega, rfl, hK0⟩
  case round =>
    clear hK0
    obtain ⟨k, hk, rfl, hI⟩ := hrel
    by_cases hlt : k < nda
    · have hdd := (hI.at_ 1 rfl : Digs wr Ba Ada nda da ∧ Ba ≤ wr.heap.size)
      have hkl : k < da.length := by rw [hdd.1.len]; exact hlt
      obtain ⟨ad, rfl, -, hc⟩ := Digs.elem hdd.1 hkl
      have hxl := hdd.1.each _ (List.getElem_mem hkl)
      have hfx := Hda.out _ (List.getElem_mem hkl)
      generalize da[k] = x at *
      have HX := Lib.hid hxl
      have HC := Lib.hid hc
      have hbx := (hI.at_ 0 rfl : Blobs wr Bx Ax nx lx ∧ Bx ≤ wr.heap.size)
      have hge := Get_any wr Bx Ax nx cx lx x hbx.1 hxl (by omega) hbx.2 HBX.out
      rw [hfx] at hge
      have d1 : decide ((k : Int) < (nda : Int)) = true := by simp; omega
      have wk0 : (0 : Int) ≤ (k : Int) := by omega
      have wk1 : (k : Int) < (nda : Int) := by omega
      have wk2 : ((k : Int)).toNat = k := by omega
      clear hdd hkl hc hxl hfx hbx
      go_wp2_with (refine wl_load_any rfl 31 (.tmp 92) rfl (ad.add (k * 32)) rfl (x.map bv) _ HC.out Try.underlying31 rfl (by rw [List.length_map, HX.out]; kernel_rfl) ?_)
      refine hge.mono ?_
      clear hge
      rintro e w5 ⟨A5, n5, c5, rfl, hb5, -⟩
      have hI5 := hI.call hb5
      clear hI hb5
      go_wp2_with fail
      exact ⟨⟨k + 1, by omega, by go_num, hI5⟩, by simp [intOf]; omega⟩
    · obtain rfl : nda = k := by omega
      have d1 : decide ((nda : Int) < (nda : Int)) = false := by simp
      go_wp2_with fail
      have hK0 := hI
      clear hI d1 hlt
      go_loopw [20] (fun i wr => ∃ k : Nat, k ≤ ndb ∧ i = .int .i64 k ∧ All wr [.low (.blobs Bx Ax nx lx), .low (.digs Ba Ada nda da), .low (.digs Bb Adb ndb db), .kept w w.heap.size]) (fun i _ => ndb - (intOf i).toNat)
      case atStart => exact ⟨0, by omega, rfl, hK0⟩
      case round =>
        clear hK0
        obtain ⟨k, hk, rfl, hI⟩ := hrel
        by_cases hlt : k < ndb
        · have hdd := (hI.at_ 2 rfl : Digs wr Bb Adb ndb db ∧ Bb ≤ wr.heap.size)
          have hkl : k < db.length := by rw [hdd.1.len]; exact hlt
          obtain ⟨ad, rfl, -, hc⟩ := Digs.elem hdd.1 hkl
          have hxl := hdd.1.each _ (List.getElem_mem hkl)
          have hfx := Hdb.out _ (List.getElem_mem hkl)
          generalize db[k] = x at *
          have HX := Lib.hid hxl
          have HC := Lib.hid hc
          have hbx := (hI.at_ 0 rfl : Blobs wr Bx Ax nx lx ∧ Bx ≤ wr.heap.size)
          have hge := Get_any wr Bx Ax nx cx lx x hbx.1 hxl (by omega) hbx.2 HBX.out
          rw [hfx] at hge
          have d1 : decide ((k : Int) < (ndb : Int)) = true := by simp; omega
          have wk0 : (0 : Int) ≤ (k : Int) := by omega
          have wk1 : (k : Int) < (ndb : Int) := by omega
          have wk2 : ((k : Int)).toNat = k := by omega
          clear hdd hkl hc hxl hfx hbx
          go_wp2_with (refine wl_load_any rfl 31 (.tmp 109) rfl (ad.add (k * 32)) rfl (x.map bv) _ HC.out Try.underlying31 rfl (by rw [List.length_map, HX.out]; kernel_rfl) ?_)
          refine hge.mono ?_
          clear hge
          rintro e w5 ⟨A5, n5, c5, rfl, hb5, -⟩
          have hI5 := hI.call hb5
          clear hI hb5
          go_wp2_with fail
          exact ⟨⟨k + 1, by omega, by go_num, hI5⟩, by simp [intOf]; omega⟩
        · obtain rfl : ndb = k := by omega
          have d1 : decide ((ndb : Int) < (ndb : Int)) = false := by simp
          have haw := awake_any wr
          go_wp2_with fail
          refine haw.mono ?_
          clear haw
          rintro e w9 ⟨rfl, hb9⟩
          have hI9 := hI.call hb9
          go_wp2_with fail
          go_ret
          exact ⟨rfl, (hI9.at_ 3 rfl : _ ∧ _).1⟩
end Go.Proofs.Ytahfhlpolhibdaa

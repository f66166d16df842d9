/- store.Sweep. -/
import Derived.Test.YtkcmaembpfakdaaGreatDoorCloB
import Derived.Test.YtkcmaembpfakdaaGreatDoorSto23
set_option linter.unusedSimpArgs false
set_option linter.unusedVariables false
set_option maxRecDepth 100000
namespace Go.Adm
open Go Go.RowKit
/-- the blob under a digest, as a pair -/
def prAt (l : List Bl) (d : List UInt8) : List UInt8 × List UInt8 := (d, ((lookB l d).map Bl.b).getD [])
theorem prAt_some {l : List Bl} {d : List UInt8} {x : Bl} (h : lookB l d = some x) : prAt l d = pr x := by
  have h2 := List.find?_some h
  unfold prAt pr
  rw [h]
  show (d, x.b) = (x.d, x.b)
  rw [show x.d = d from of_decide_eq_true h2]
/-- what Sweep answers -/
def SwpRet (l : List Bl) (roots : List (List UInt8)) (w : World) (e : Ending) (w' : World) : Prop :=
  ∃ (A : Option Addr) (c : Nat) (o : List Bl) (er : Int), e = .returned (.tuple #[.slice A o.length c, .int .i64 er]) ∧ Blobs w' w'.heap.size A o.length o ∧ o.length ≤ c ∧ c ≤ maxLen ∧ Below w.heap.size w w' ∧
    ((validB l = false ∧ er = 1 ∧ o = []) ∨ (validB l = true ∧ er = 0 ∧ ∃ P M, CloPost l roots P M ∧ o.map pr = P.map (prAt l)))
theorem pr_unique {P Q : PrL} (hP : Asc (P.map Prod.fst)) (hQ : Asc (Q.map Prod.fst)) (h : ∀ p, p ∈ P ↔ p ∈ Q) : P = Q :=
  asc_same (lt := fun p q => lessD p.1 q.1) (fun a => lessD_irrefl a.1) (fun a b c (h1 : lessD a.1 b.1 = true) (h2 : lessD b.1 c.1 = true) => lessD_trans h1 h2) (List.pairwise_map.1 hP) (List.pairwise_map.1 hQ) h
/-- the swept list, by the digests that are present -/
theorem swept_eq {l : List Bl} {roots P M : List (List UInt8)} (hv : validB l = true) (h : CloPost l roots P M) : (l.filter (fun x => decide (x.d ∈ P))).map pr = P.map (prAt l) := by
  have ha := valid_asc hv
  refine pr_unique ?_ ?_ (fun p => ?_)
  · have : ((l.filter (fun x => decide (x.d ∈ P))).map pr).map Prod.fst = (l.filter (fun x => decide (x.d ∈ P))).map Bl.d := by rw [List.map_map]; rfl
    rw [this]
    have h1 : (l.map pr).map Prod.fst = l.map Bl.d := by rw [List.map_map]; rfl
    rw [h1] at ha
    exact List.Pairwise.sublist (List.Sublist.map _ List.filter_sublist) ha
  · have : (P.map (prAt l)).map Prod.fst = P := by rw [List.map_map]; exact List.map_id' P
    rw [this]; exact h.ap
  · constructor
    · intro hp
      obtain ⟨x, hx, rfl⟩ := List.mem_map.1 hp
      obtain ⟨hx1, hx2⟩ := List.mem_filter.1 hx
      have hxp := of_decide_eq_true hx2
      obtain ⟨y, hy⟩ := Option.isSome_iff_exists.1 (show (lookB l x.d).isSome = true by
        have := ((h.ok.1 x.d).1 hxp).2
        unfold lkG at this
        rwa [Option.isSome_map] at this)
      have e : prAt l x.d = pr y := prAt_some hy
      have hym := List.mem_of_find?_eq_some hy
      have hyd0 := List.find?_some hy
      have hyd : y.d = x.d := of_decide_eq_true hyd0
      have : y = x := by
        obtain ⟨i, hi, rfl⟩ := List.getElem_of_mem hym
        obtain ⟨j, hj, rfl⟩ := List.getElem_of_mem hx1
        have hs := validB_sorted hv
        rcases Nat.lt_trichotomy i j with h1 | h1 | h1
        · have := hs i j h1 hj; rw [hyd, lessD_irrefl] at this; cases this
        · subst h1; rfl
        · have := hs j i h1 hi; rw [hyd, lessD_irrefl] at this; cases this
      rw [← this, ← e]
      exact List.mem_map.2 ⟨x.d, hxp, rfl⟩
    · intro hp
      obtain ⟨d, hd, rfl⟩ := List.mem_map.1 hp
      obtain ⟨y, hy⟩ := Option.isSome_iff_exists.1 (show (lookB l d).isSome = true by
        have := ((h.ok.1 d).1 hd).2
        unfold lkG at this
        rwa [Option.isSome_map] at this)
      rw [prAt_some hy]
      have hyd0 := List.find?_some hy
      have hyd : y.d = d := of_decide_eq_true hyd0
      exact List.mem_map.2 ⟨y, List.mem_filter.2 ⟨List.mem_of_find?_eq_some hy, by rw [hyd]; exact decide_eq_true hd⟩, rfl⟩
theorem blC_snoc (o : List Bl) (x : Bl) : ((o ++ [x]).map blC).flatten = (o.map blC).flatten ++ blC x := by simp
theorem own_blobs {w : World} {base c : Nat} {t : TypeId} {A : Option Addr} {o : List Bl} (h : Go.Adm.Own w base t 33 A o.length c (o.map blC).flatten) (hd : ∀ x ∈ o, BlOk w w.heap.size x) : Blobs w w.heap.size A o.length o :=
  ⟨Els.of h (fun y hy => by obtain ⟨v, hv, rfl⟩ := List.mem_map.1 hy; exact blC_len (hd v hv).d32) (by rw [List.length_map]), hd, rfl⟩
/-- a block that is none of the data's -/
def Offd (v : Value) (o : List Bl) : Prop := ∀ x ∈ o, ∀ ad, x.A = some ad → v.ownBlock ≠ some ad.block
theorem map_snoc_take {α β : Type} (f : α → β) (l : List α) (k : Nat) (hk : k < l.length) : (l.take (k + 1)).map f = (l.take k).map f ++ [f l[k]] := by
  rw [List.take_succ_eq_append_getElem hk, List.map_append]; rfl
end Go.Adm
namespace Go.Proofs.YtkcmaembpfakdaaGreatDoor
open Go Go.RowKit Go.Adm
set_option maxHeartbeats 12800000 in
theorem Sweep_any (w : World) (B : Nat) (A : Option Addr) (n c : Nat) (l : List Bl) (hl : Blobs w B A n l) (Ar : Option Addr) (nr cr : Nat) (roots : List (List UInt8)) (hr : Digs w B Ar nr roots) (hn : n ≤ 1000) (hnr : nr ≤ 1000) (hbig : ∀ x ∈ l, x.n ≤ 140737488355000) (hB : B ≤ w.heap.size) (h0 : 0 < w.heap.size) :
    Calls Tryz.prog 17 #[.slice A n c, .slice Ar nr cr] w (SwpRet l roots w) := by
  have hR : All w [.low (.blobs B A n l), .low (.digs B Ar nr roots), .kept w w.heap.size] := ⟨⟨hl, hB⟩, ⟨hr, hB⟩, ⟨Below.refl _ _, Nat.le_refl _⟩, trivial⟩
  have HLL := Lib.hid hl.len
  have HBIG := Lib.hid hbig
  have HB32 : Hid (∀ x ∈ l, x.d.length = 32) := Lib.hid (fun x hx => (hl.each x hx).d32)
  have hva := Valid_any w B A n c l hl (by omega) hB hbig
  clear hl hr hbig
  have hzr := zero_dg
  cases qv : validB l with
  | false =>
    rw [qv] at hva
    have HV := Lib.hid qv
    clear qv
    go_enter Tryz.func17, Tryz.ntmps17
    go_wp2_with (go_at_call 38; refine hva.mono ?_; clear hva; rintro e w1 ⟨rfl, hb1⟩; have hI1 := hR.call hb1)
    go_ret2
    exact ⟨none, 0, [], 1, rfl, Blobs.nil, Nat.le_refl _, Nat.zero_le _, (hI1.at_ 2 rfl : _ ∧ _).1, .inl ⟨HV.out, rfl, rfl⟩⟩
  | true =>
    rw [qv] at hva
    have HV := Lib.hid qv
    have HSO := Lib.hid (validB_sorted qv)
    clear qv
    have hcl : ∀ W, All W [.low (.blobs B A n l), .low (.digs B Ar nr roots), .kept w w.heap.size] → Calls Tryz.prog 9 #[.slice A n c, .slice Ar nr cr] W (CloRet l roots W) := fun W h => Closure_any W B A n c l (h.at_ 0 rfl : _ ∧ _).1 Ar nr cr roots (h.at_ 1 rfl : _ ∧ _).1 hn hnr (h.at_ 0 rfl : _ ∧ B ≤ W.heap.size).2
    have hfi : Hid (∀ (d : List UInt8) W, d.length = 32 → Blobs W B A n l → B ≤ W.heap.size → Calls Tryz.prog 39 #[.slice A n c, .agg (d.map bv).toArray] W fun e w' => e = .returned (.tuple #[.int .i64 (placeB l d : Nat), .bool (lookB l d).isSome]) ∧ Below W.heap.size W w') := Lib.hid (fun d W h1 h2 h3 => find_any W B A n c l d h2 HSO.out h1 (by omega) h3)
    go_enter Tryz.func17, Tryz.ntmps17
    go_upto_region 5 with (first
      | (go_at_call 38; refine hva.mono ?_; clear hva; rintro e w1 ⟨rfl, hb1⟩; have hI1 := hR.call hb1; have hcc := hcl w1 hI1)
      | (go_at_call 9; refine hcc.mono ?_; clear hcc; rintro e w2 ⟨A1, c1, A2, c2, P, M, rfl, hCP, hD1, hD2, hb2⟩; have hI2 := hI1.call hb2))
    have HCP := Lib.hid hCP
    have HP32 := Lib.hid hCP.p32
    have hpl : P.length ≤ 200000000 := hCP.len.1
    obtain ⟨Bp, hBp⟩ : ∃ b, b = w2.heap.size := ⟨_, rfl⟩
    rw [← hBp] at hD1
    have hI : All w2 [.own Bp 51 33 none 0 0 (([] : List Bl).map blC).flatten, .dat (w.heap.size - 1) [], .low (.blobs B A n l), .low (.digs Bp A1 P.length P), .kept w w.heap.size] := ⟨Go.Adm.Own.nil _ _ _ _, dat_nil, hI2.1, ⟨hD1, by show Bp ≤ w2.heap.size; omega⟩, hI2.at_ 2 rfl, trivial⟩
    have hBw : w.heap.size ≤ Bp := by rw [hBp]; exact (hI2.at_ 2 rfl : _ ∧ w.heap.size ≤ w2.heap.size).2
    clear hI1 hI2 hb1 hb2 hD1 hD2 hcl hR hCP hBp
    go_wp2_with fail
    go_loopw [8, 24] (fun v i wr => ∃ (k : Nat) (Ao : Option Addr) (co : Nat) (o : List Bl), k ≤ P.length ∧ i = .int .i64 k ∧ v = .slice Ao o.length co ∧ Hid (o.length = k) ∧ Hid (o.map pr = (P.take k).map (prAt l)) ∧ Hid (Offd (.slice Ao o.length co) o) ∧ All wr [.own Bp 51 33 Ao o.length co (o.map blC).flatten, .dat (w.heap.size - 1) o, .low (.blobs B A n l), .low (.digs Bp A1 P.length P), .kept w w.heap.size]) (fun _ i _ => P.length - (intOf i).toNat)
    case atStart => exact ⟨0, none, 0, [], Nat.zero_le _, rfl, rfl, Lib.hid rfl, Lib.hid rfl, Lib.hid (fun x hx => by cases hx), hI⟩
    case round =>
      clear hI
      obtain ⟨k, Ao, co, o, hk, rfl, rfl, hok, HO, HF, hI⟩ := hrel
      by_cases hlt : k < P.length
      · have d1 : decide ((k : Int) < (P.length : Int)) = true := by simp; omega
        obtain ⟨ad, rfl, hadB, hc⟩ := (hI.at_ 3 rfl : Digs wr Bp A1 P.length P ∧ _).1.elem hlt
        have HC := Lib.hid hc
        have HD := Lib.hid (HP32.out _ (List.getElem_mem hlt))
        obtain ⟨x, hx⟩ := Option.isSome_iff_exists.1 (show (lookB l P[k]).isSome = true by
          have := ((HCP.out.ok.1 _).1 (List.getElem_mem hlt)).2
          unfold lkG at this
          rwa [Option.isSome_map] at this)
        have HTK := Lib.hid (map_snoc_take (prAt l) P k hlt)
        have HPX := Lib.hid (prAt_some hx)
        have hpa := place_at HSO.out hx
        have HXM := Lib.hid (lookB_mem hx)
        have hff := hfi.out P[k] 
        have HHX : Hid ((lookB l P[k]).isSome = true) := Lib.hid (by rw [hx]; rfl)
        obtain ⟨p, hp⟩ : ∃ p, p = placeB l P[k] := ⟨_, rfl⟩
        rw [← hp, HHX.out] at hff
        rw [← hp] at hpa
        have HFI : Hid (∀ W, Blobs W B A n l → B ≤ W.heap.size → Calls Tryz.prog 39 #[.slice A n c, .agg (P[k].map bv).toArray] W fun e w' => e = .returned (.tuple #[.int .i64 (p : Nat), .bool true]) ∧ Below W.heap.size W w') := Lib.hid (fun W h1 h2 => hff W HD.out h1 h2)
        clear hc hx hp hff HHX
        generalize P[k] = d at *
        obtain ⟨hpl2, hpe⟩ := List.getElem?_eq_some_iff.1 hpa
        have hpn : p < n := by rw [← HLL.out]; exact hpl2
        have hx32 := Lib.hid (HB32.out x HXM.out)
        have HBX := Lib.hid (HBIG.out x HXM.out)
        obtain ⟨a2, rfl, ha2, -⟩ := Els.elem (hI.at_ 2 rfl : Blobs wr B A n l ∧ _).1.els hpl2
        have HEX : Hid (∀ W, Blobs W B (some a2) n l → ∀ j u, (blC x)[j]? = some u → W.cell? ((a2.add (p * 33)).add j) = some u) := Lib.hid (fun W hW => by
          obtain ⟨a', e, -, hc⟩ := Els.elem hW.els hpl2
          obtain rfl := Option.some.inj e
          rw [hpe] at hc
          exact hc)
        clear hpa hpe hpl2
        have wk0 : (0 : Int) ≤ (k : Int) := by omega
        have wk1 : (k : Int) < (P.length : Int) := by omega
        have wk2 : ((k : Int)).toNat = k := by omega
        have vk0 : (0 : Int) ≤ (p : Int) := by omega
        have vk1 : (p : Int) < (n : Int) := by omega
        have vk2 : ((p : Int)).toNat = p := by omega
        go_upto_region 8 with (first
          | (refine wl_load_any rfl 32 (.tmp 26) rfl (ad.add (k * 32)) rfl (d.map bv) _ HC.out Tryz.underlying32 rfl (by rw [List.length_map, HD.out]; kernel_rfl) ?_)
          | (refine wl_store_at (hI.new (l := z32.map bv) _ 32 rfl rfl) 0 rfl 32 (.tmp 10) (.tmp 27) rfl wr.heap.size _ _ (d.map bv) rfl rfl rfl (by rw [List.length_map, HD.out]; rfl) (by rw [List.length_map, HD.out]; kernel_rfl) (bv_one _) ⟨fun g e => .inr (by injection e with e; subst e; exact Own.ne (hI.at_ 0 rfl)), dat_far (hI.at_ 1 rfl) (Nat.le_refl _), fun g e => (by have := (hI.at_ 2 rfl : _ ∧ B ≤ wr.heap.size).2; injection e with e; subst e; exact this), fun g e => (by have := (hI.at_ 3 rfl : _ ∧ Bp ≤ wr.heap.size).2; injection e with e; subst e; exact this), fun g e => (by have := (hI.at_ 4 rfl : _ ∧ w.heap.size ≤ wr.heap.size).2; injection e with e; subst e; exact this), trivial⟩ ?_; intro W5 hI5 hs5; simp only [List.set_cons_zero] at hI5))
        obtain ⟨gx, hgx⟩ : ∃ g, g = wr.heap.size := ⟨_, rfl⟩
        simp only [← hgx] at hI5 ⊢
        clear hI hs5 hgx HC
        go_upto_region 9 with (first
          | (refine wl_load_any rfl 32 (.tmp 10) rfl ⟨gx, 0, none⟩ rfl (d.map bv) _ (cell_allD (hI5.at_ 0 rfl)) Tryz.underlying32 rfl (by rw [List.length_map, HD.out]; kernel_rfl) ?_)
          | (go_at_call 39; refine (HFI.out W5 (hI5.at_ 3 rfl : _ ∧ _).1 (hI5.at_ 3 rfl : _ ∧ B ≤ W5.heap.size).2).mono ?_; rintro e W6 ⟨rfl, hb6⟩; have hI6 := (hI5.call hb6).2; clear hb6 hI5))
        have hbl := (hI6.at_ 2 rfl : Blobs W6 B (some a2) n l ∧ B ≤ W6.heap.size)
        have hcx := HEX.out W6 hbl.1
        have hdu := duplicate_any W6 B x (hbl.1.each x HXM.out) HBX.out hbl.2
        have HXOK := Lib.hid (hbl.1.each x HXM.out)
        have HO6 := Lib.hid (hI6.at_ 0 rfl : Go.Adm.Own W6 Bp 51 33 Ao o.length co (o.map blC).flatten)
        have hw6 : w.heap.size ≤ W6.heap.size := hI6.size_kept 4 rfl
        have hp6 : Bp ≤ W6.heap.size := (hI6.at_ 3 rfl : _ ∧ Bp ≤ W6.heap.size).2
        clear hbl
        go_wp2_with (first
          | (refine wl_load_any rfl 51 (.tmp 37) rfl (a2.add (p * 33)) rfl (blC x) _ hcx Tryz.underlying51 rfl (by rw [blC_len hx32.out]; kernel_rfl) ?_)
          | (go_at_call 40; refine hdu.mono ?_; clear hdu; rintro e W7 ⟨gd, hgd1, hgd2, rfl, hcd, hb7⟩; have hI7 := hI6.call hb7; obtain ⟨y, hy⟩ : ∃ y : Bl, y = ⟨x.d, some ⟨gd, 0, none⟩, x.n, x.n, x.b⟩ := ⟨_, rfl⟩; simp only [← hy]; have HYB : Hid (BlOk W7 W7.heap.size y) := Lib.hid (by rw [hy]; exact ⟨hx32.out, cells_rd0 hcd (by rw [List.length_map]; exact HXOK.out.len), Nat.le_refl _, Nat.le_trans HXOK.out.nc HXOK.out.cm⟩); have HYA : Hid (∀ ad, y.A = some ad → ad.block = gd) := Lib.hid (fun ad e => by rw [hy] at e; injection e with e; rw [← e]); have HYP : Hid (pr y = prAt l d) := Lib.hid (by rw [HPX.out, hy]; rfl); have HY32 : Hid (y.d.length = 32) := Lib.hid (by rw [hy]; exact hx32.out); clear hy hcd hb7 hI6; have hI8 : All W7 [.own Bp 51 33 Ao o.length co (o.map blC).flatten, .dat (w.heap.size - 1) (o ++ [y]), .low (.blobs B (some a2) n l), .low (.digs Bp (some ad) P.length P), .kept w w.heap.size] := ⟨hI7.1, dat_snoc (hI7.at_ 1 rfl) HYB.out (fun ad e => by rw [HYA.out ad e]; omega), hI7.2.2⟩; have hI9 := All.alloc hI8 (.cells (blC y).toArray 51); have hrd : Rd (W7.alloc (.cells (blC y).toArray 51)) (W7.heap.size + 1) 33 (some ⟨W7.heap.size, 0, none⟩) 1 (blC y) := Rd.lit (size := 33) W7 (blC y).toArray 51 1 (by rw [List.size_toArray]; exact blC_len HY32.out))
          | (refine wl_lit1 el_bl rfl (.tmp 39) rfl (blC y) rfl (blC_len HY32.out) (by decide) ?_)
          | (at_builtin; refine wl_app_at6 el_bl hI9 0 rfl (.tmp 34) (.tmp 40) rfl Bp _ _ _ _ rfl rfl (W7.heap.size + 1) _ 1 1 (blC y) rfl hrd (blC_one y) (by have := hok.out; omega) (by simp; omega) (by intro g hg h; exact ⟨dat_ne (fun z hz ad e e2 => by
              rcases List.mem_append.1 hz with h1 | h1
              · exact HF.out z h1 ad e (by rw [h, e2])
              · rw [List.mem_singleton.1 h1] at e
                have := HYA.out ad e
                have := (HO6.out.lt h).2
                omega), fun g' e => (by injection e with e; subst e; exact Nat.le_trans (Nat.le_trans hB hBw) hg), fun g' e => (by injection e with e; subst e; exact hg), fun g' e => (by injection e with e; subst e; exact Nat.le_trans hBw hg), trivial⟩) ?_; intro Aa ca Wa hIa hsa h6))
        simp only [List.set_cons_zero] at hIa
        have hdt := (hI8.at_ 1 rfl : (Res.dat (w.heap.size - 1) (o ++ [y])).ok W7)
        have HF2 : Hid (Offd (.slice Aa (o.length + 1) ca) (o ++ [y])) := Lib.hid (fun z hz ad e e2 => by
          have hz2 := (dat_at hdt z hz ad e).2
          rcases h6 with h6 | h6
          · rw [h6] at e2
            rcases List.mem_append.1 hz with h1 | h1
            · exact HF.out z h1 ad e e2
            · rw [List.mem_singleton.1 h1] at e
              have := HYA.out ad e
              have := (HO6.out.lt e2).2
              omega
          · rw [h6] at e2
            injection e2 with e2
            simp at e2
            omega)
        refine ⟨⟨k + 1, Aa, ca, o ++ [y], by omega, by go_num, by rw [List.length_append]; rfl, Lib.hid (by rw [List.length_append, List.length_singleton, hok.out]), Lib.hid (by rw [List.map_append, HO.out, HTK.out, ← HYP.out]; rfl), by rw [List.length_append]; exact HF2, ?_⟩, by simp [intOf]; omega⟩
        rw [List.length_append, List.length_singleton, blC_snoc]
        exact hIa
      · have d1 : decide ((k : Int) < (P.length : Int)) = false := by simp; omega
        have HE : Hid (o.map pr = P.map (prAt l)) := Lib.hid (by rw [HO.out, List.take_of_length_le (by omega)])
        clear HO
        go_wp2_with fail
        go_ret2
        exact ⟨Ao, co, o, 0, rfl, own_blobs (hI.at_ 0 rfl) (dat_get (hI.at_ 1 rfl)), (hI.at_ 0 rfl : Go.Adm.Own _ _ _ _ _ _ _ _).cap.1, (hI.at_ 0 rfl : Go.Adm.Own _ _ _ _ _ _ _ _).cap.2, (hI.at_ 4 rfl : _ ∧ _).1, .inr ⟨HV.out, rfl, P, M, HCP.out, HE.out⟩⟩
end Go.Proofs.YtkcmaembpfakdaaGreatDoor

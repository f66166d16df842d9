/- The law StoreCloses. -/
import Derived.Test.YtkcmaembpfakdaaGreatDoorCloJ
import Derived.Test.YtkcmaembpfakdaaGreatDoorSameD
import Derived.Test.YtkcmaembpfakdaaGreatDoorCloR
import Derived.Test.YtkcmaembpfakdaaGreatDoorCloB
import Derived.Test.YtkcmaembpfakdaaGreatDoorAgnP
import Derived.Test.YtkcmaembpfakdaaGreatDoorSto14
import Derived.Test.YtkcmaembpfakdaaGreatDoorOpenV
set_option linter.unusedSimpArgs false
set_option linter.unusedVariables false
set_option maxRecDepth 100000
namespace Go.Adm
open Go Go.RowKit
/-- what is known of an empty literal, of a row, of a literal of one, of both -/
def CR1 (b : Nat) (t : TypeId) (v : Value) (W : World) : Prop := ∃ ad, v = .slice (some ad) 0 0 ∧ Go.Adm.Own W b t 32 (some ad) 0 0 []
def CR3 (b : Nat) (t : TypeId) (n : Nat) (l : List (List UInt8)) (v : Value) (W : World) : Prop := ∃ A c, v = .slice A n c ∧ Go.Adm.Own W b t 32 A n c (dvs l).flatten
def CR8 (d : List UInt8) (v : Value) (W : World) : Prop := ∃ A c, v = .slice A 1 c ∧ Rd W W.heap.size 32 A 1 (d.map bv)
def CR9 (n : Nat) (l : List (List UInt8)) (v : Value) (W : World) : Prop := ∃ A c, v = .slice A n c ∧ Digs W W.heap.size A n l
def CRz (l : List Bl) (roots : List (List UInt8)) (s1 s2 : Value) (W : World) : Prop := ∃ A1 c1 A2 c2 P M, s1 = .slice A1 P.length c1 ∧ s2 = .slice A2 M.length c2 ∧ CloPost l roots P M ∧ Digs W W.heap.size A1 P.length P ∧ Digs W W.heap.size A2 M.length M
section
variable {b n : Nat} {t : TypeId} {l : List (List UInt8)} {d : List UInt8} {v : Value} {W W' : World}
theorem CR1.alloc (h : CR1 b t v W) (x : Obj) : CR1 b t v (W.alloc x) := by obtain ⟨ad, e, h⟩ := h; exact ⟨ad, e, h.alloc x⟩
theorem CR3.alloc (h : CR3 b t n l v W) (x : Obj) : CR3 b t n l v (W.alloc x) := by obtain ⟨A, c, e, h⟩ := h; exact ⟨A, c, e, h.alloc x⟩
theorem CR8.alloc (h : CR8 d v W) (x : Obj) : CR8 d v (W.alloc x) := by obtain ⟨A, c, e, h⟩ := h; exact ⟨A, c, e, (h.alloc (Nat.le_refl _) x).mono (by simp)⟩
theorem CR9.alloc (h : CR9 n l v W) (x : Obj) : CR9 n l v (W.alloc x) := by
  obtain ⟨A, c, e, h⟩ := h
  exact ⟨A, c, e, (h.keep (fun p hp => World.cell?_alloc_lt W x p (by omega))).mono (by simp)⟩
theorem grown_below (h : W.grownBy W' none) : Below W.heap.size W W' := (Below.refl _ W).grown h (Nat.le_refl _) (fun k hk => by cases hk)
theorem CR8.grown (h : CR8 d v W) (hg : W.grownBy W' none) : CR8 d v W' := by obtain ⟨A, c, e, h⟩ := h; exact ⟨A, c, e, (h.below (grown_below hg) (Nat.le_refl _)).mono hg.size⟩
theorem CR9.grown (h : CR9 n l v W) (hg : W.grownBy W' none) : CR9 n l v W' := by
  obtain ⟨A, c, e, h⟩ := h
  exact ⟨A, c, e, (h.keep (fun p hp => (grown_below hg).cell hp)).mono hg.size⟩
theorem own_digsC {base c : Nat} {A : Option Addr} (h : Go.Adm.Own W base t 32 A n c (dvs l).flatten) (h32 : ∀ d ∈ l, d.length = 32) (hl : l.length = n) : Digs W W.heap.size A n l := by
  refine ⟨Els.of h (fun e he => ?_) (by rw [dvs_len]; exact hl), h32, hl⟩
  obtain ⟨x, hx, rfl⟩ := List.mem_map.1 he
  rw [List.length_map]; exact h32 x hx
end
end Go.Adm
namespace Go.Proofs.YtkcmaembpfakdaaGreatDoor
open Go Go.RowKit Go.Adm

set_option maxHeartbeats 25600000 in
theorem walkCloses (w : World) (m : Int) (hm : w.cell? ⟨0, 0, none⟩ = some (.int .i64 m)) (B : Nat) (A : Option Addr) (n c : Nat) (l : List Bl) (hl : Blobs w B A n l) (hbig : ∀ x ∈ l, x.n ≤ 140737488351232) (hc : c ≤ 140737488351232) (hnc : n ≤ c) (Ar : Option Addr) (nr cr : Nat) (roots : List (List UInt8)) (hr : Digs w B Ar nr roots) (A2 : Option Addr) (n2 c2 : Nat) (rows : List (List Int)) (hrw : IRows w B A2 n2 rows) (hn2 : n2 ≤ 140737488351232) (hri : ∀ r ∈ rows, IntB r) (hB : B ≤ w.heap.size) :
    Calls Tryz.prog 3 #[.slice A n c, .slice Ar nr cr, .slice A2 n2 c2] w fun e w' => e = .returned (.bool true) ∧ Below w.heap.size w w' := by
  have hgm : 0 < w.heap.size := World.block_lt_of_cell? w _ hm
  have h0 : 0 < w.heap.size := by omega
  have HM : Hid (∀ W, Below w.heap.size w W → W.cell? ⟨0, 0, none⟩ = some (.int .i64 m)) := Lib.hid (fun W hb => (hb.cell hgm).trans hm)
  have hR : All w [.low (.blobs B A n l), .low (.digs B Ar nr roots), .kept w w.heap.size] := ⟨⟨hl, hB⟩, ⟨hr, hB⟩, ⟨Below.refl _ _, Nat.le_refl _⟩, trivial⟩
  have HB1 : Hid (∀ x ∈ l, x.n ≤ 140737488355000) := Lib.hid (fun x hx => Nat.le_trans (hbig x hx) (by decide))
  have hlt1 := light_any w B A n c l hl hB (by omega) HB1.out
  have HFI : Hid (∀ W, Below w.heap.size w W → Calls Tryz.prog 8 #[.slice A2 n2 c2] W (FilPost W)) := Lib.hid (fun W hb => filled_any W B A2 n2 c2 rows (by
    obtain ⟨vs, h1, h2⟩ := hrw.rows
    exact ⟨vs, h1.below hb hB, h2.imp fun v L ⟨A, c, e, h⟩ => ⟨A, c, e, h.below hb hB⟩⟩) (Nat.le_trans hB hb.size) (by omega) (fun r hr => (hri r hr).2) (fun r hr => by have := (hri r hr).1; omega))
  clear hl hr hm hgm hbig hrw hri
  go_enter Tryz.func3, Tryz.ntmps3
  go_wp2_with fail
  refine hlt1.mono ?_
  clear hlt1
  rintro e w1 ⟨rfl | ⟨rfl, hn300⟩, hb1⟩
  · go_wp2_with fail
    go_ret
    exact ⟨rfl, hb1⟩
  have hI1 := hR.call hb1
  clear hR
  by_cases q3 : 50 < nr
  · have d3 : decide ((50 : Int) < (nr : Int)) = true := by simp; omega
    go_wp2_with fail
    go_ret
    exact ⟨rfl, (hI1.at_ 2 rfl : _ ∧ _).1⟩
  have d3 : decide ((50 : Int) < (nr : Int)) = false := by simp; omega
  have hfi := HFI.out w1 hb1
  clear hb1 HFI
  go_upto_region 4 with (go_at_call 8; refine hfi.mono ?_; clear hfi; rintro e w2 ⟨Ay, ny, cy, ly, Aa, na, ca, ds, cts, rfl, hbl, hdg, hncy, hcmy, hnca, hcma, hiv, hcl, hc26, hds, hb2, hlk⟩; have hI2 := hI1.call hb2)
  have hny : ny ≤ 12 := by
    have h1 := hiv.len
    rw [List.length_map, hbl.len] at h1
    omega
  have hna : na ≤ 12 := by rw [← hdg.len, hds, List.length_map]; exact hcl
  have HNA := Lib.hid hdg.len
  have HD32 := Lib.hid hdg.each
  have hbw := (hI2.at_ 1 rfl : Digs w2 B Ar nr roots ∧ B ≤ w2.heap.size)
  have HR32 := Lib.hid hbw.1.each
  have HRL := Lib.hid hbw.1.len
  obtain ⟨bB, hbB⟩ : ∃ b, b = w2.heap.size := ⟨_, rfl⟩
  have hwB : w.heap.size ≤ bB := by rw [hbB]; exact (hI2.at_ 2 rfl : _ ∧ w.heap.size ≤ w2.heap.size).2
  have hI3 : All w2 [.low (.blobs bB A n l), .low (.blobs bB Ay ny ly), .low (.digs bB Aa na ds), .low (.digs bB Ar nr roots), .kept w w.heap.size] := ⟨⟨by rw [hbB]; exact (hI2.at_ 0 rfl : Blobs w2 B A n l ∧ _).1.mono hbw.2, by show bB ≤ w2.heap.size; omega⟩, ⟨by rw [hbB]; exact hbl, by show bB ≤ w2.heap.size; omega⟩, ⟨by rw [hbB]; exact hdg, by show bB ≤ w2.heap.size; omega⟩, ⟨by rw [hbB]; exact hbw.1.mono hbw.2, by show bB ≤ w2.heap.size; omega⟩, hI2.at_ 2 rfl, trivial⟩
  clear hbl hdg hiv hcl hc26 hds hb2 hlk hI1 hI2 hbw hbB hcma hcmy hncy hnca
  have hr1 := Closure_any w2 bB A n c l (hI3.at_ 0 rfl : _ ∧ _).1 Ar nr cr roots (hI3.at_ 3 rfl : _ ∧ _).1 (by omega) (by omega) (hI3.at_ 0 rfl : _ ∧ bB ≤ w2.heap.size).2
  go_upto_region 5 with (go_at_call 9; refine hr1.mono ?_; clear hr1; rintro e w3 ⟨A3, c3, A4, c4, P, M, rfl, hP, hD3, hD4, hb3⟩; have hI4 := hI3.call hb3; clear hI3 hb3)
  obtain ⟨b3, hb3⟩ : ∃ b, b = w3.heap.size := ⟨_, rfl⟩
  have hI5 : All w3 [.low (.digs b3 A3 P.length P), .low (.digs b3 A4 M.length M), .low (.blobs bB A n l), .low (.blobs bB Ay ny ly), .low (.digs bB Aa na ds), .low (.digs bB Ar nr roots), .kept w w.heap.size] := ⟨⟨by rw [hb3]; exact hD3, by show b3 ≤ w3.heap.size; omega⟩, ⟨by rw [hb3]; exact hD4, by show b3 ≤ w3.heap.size; omega⟩, hI4⟩
  have hr2 := refClosure_any w3 m (HM.out w3 (hI5.at_ 6 rfl : _ ∧ _).1) bB A n c l (hI5.at_ 2 rfl : _ ∧ _).1 Ar nr cr roots (hI5.at_ 5 rfl : _ ∧ _).1 (by omega) (by omega) (hI5.at_ 2 rfl : _ ∧ bB ≤ w3.heap.size).2
  have HP := Lib.hid hP
  clear hD3 hD4 hI4 hb3 hP
  go_upto_region 6 with (go_at_call 10; refine hr2.mono ?_; clear hr2; rintro e w4 ⟨A5, c5, A6, c6, P5, M5, rfl, hP5, hD5, hD6, hb4⟩; have hI6 := hI5.call hb4; clear hI5 hb4)
  obtain ⟨rfl, rfl⟩ := hP5.uniq HP.out
  have hpl := hP5.len
  clear hP5 HP
  obtain ⟨b4, hb4⟩ : ∃ b, b = w4.heap.size := ⟨_, rfl⟩
  have hI7 : All w4 [.low (.digs b4 A5 P5.length P5), .low (.digs b4 A6 M5.length M5), .low (.digs b3 A3 P5.length P5), .low (.digs b3 A4 M5.length M5), .low (.blobs bB A n l), .low (.blobs bB Ay ny ly), .low (.digs bB Aa na ds), .low (.digs bB Ar nr roots), .kept w w.heap.size] := ⟨⟨by rw [hb4]; exact hD5, by show b4 ≤ w4.heap.size; omega⟩, ⟨by rw [hb4]; exact hD6, by show b4 ≤ w4.heap.size; omega⟩, hI6⟩
  clear hD5 hD6 hI6 hb4
  have HS1 : Hid (∀ W, All W [.low (.digs b4 A5 P5.length P5), .low (.digs b4 A6 M5.length M5), .low (.digs b3 A3 P5.length P5), .low (.digs b3 A4 M5.length M5), .low (.blobs bB A n l), .low (.blobs bB Ay ny ly), .low (.digs bB Aa na ds), .low (.digs bB Ar nr roots), .kept w w.heap.size] → Calls Tryz.prog 11 #[.slice A3 P5.length c3, .slice A5 P5.length c5] W fun e w' => e = .returned (.bool true) ∧ Below W.heap.size W w') := Lib.hid (fun W h => SameDigs_true W W.heap.size A3 A5 P5.length c3 c5 P5 ((h.at_ 2 rfl : Digs W b3 A3 _ P5 ∧ _).1.mono (h.at_ 2 rfl : _ ∧ b3 ≤ W.heap.size).2) ((h.at_ 0 rfl : Digs W b4 A5 _ P5 ∧ _).1.mono (h.at_ 0 rfl : _ ∧ b4 ≤ W.heap.size).2) (by omega) (Nat.le_refl _))
  have HS2 : Hid (∀ W, All W [.low (.digs b4 A5 P5.length P5), .low (.digs b4 A6 M5.length M5), .low (.digs b3 A3 P5.length P5), .low (.digs b3 A4 M5.length M5), .low (.blobs bB A n l), .low (.blobs bB Ay ny ly), .low (.digs bB Aa na ds), .low (.digs bB Ar nr roots), .kept w w.heap.size] → Calls Tryz.prog 11 #[.slice A4 M5.length c4, .slice A6 M5.length c6] W fun e w' => e = .returned (.bool true) ∧ Below W.heap.size W w') := Lib.hid (fun W h => SameDigs_true W W.heap.size A4 A6 M5.length c4 c6 M5 ((h.at_ 3 rfl : Digs W b3 A4 _ M5 ∧ _).1.mono (h.at_ 3 rfl : _ ∧ b3 ≤ W.heap.size).2) ((h.at_ 1 rfl : Digs W b4 A6 _ M5 ∧ _).1.mono (h.at_ 1 rfl : _ ∧ b4 ≤ W.heap.size).2) (by omega) (Nat.le_refl _))
  have hs1 := HS1.out w4 hI7
  clear HS1 hpl
  go_upto_region 8 with (first
    | (go_at_call 11; refine hs1.mono ?_; clear hs1; rintro e w5 ⟨rfl, hb5⟩; have hI8 := hI7.call hb5; have hs2 := HS2.out w5 hI8; clear hI7 hb5)
    | (go_at_call 11; refine hs2.mono ?_; clear hs2; rintro e w6 ⟨rfl, hb6⟩; have hI9 := (hI8.call hb6).2.2.2.2.2; clear hI8 hb6))
  clear HS2
  go_wp2_with fail
  go_loopw [9, 10, 11, 12, 13] (fun v9 v10 v11 v12 iv wr => ∃ (i : Nat), i ≤ na ∧ iv = .int .i64 i ∧ All wr [.low (.blobs bB Ay ny ly), .low (.digs bB Aa na ds), .low (.digs bB Ar nr roots), .kept w w.heap.size]) (fun _ _ _ _ iv _ => na - (intOf iv).toNat)
  case atStart => exact ⟨0, Nat.zero_le _, rfl, hI9⟩
  case round =>
    clear hI9
    obtain ⟨i, hi, rfl, hI⟩ := hrel
    by_cases hlt : i < na
    · have d1 : decide ((i : Int) < (na : Int)) = true := by simp; omega
      have wi0 : (0 : Int) ≤ (i : Int) := by omega
      have wi1 : (i : Int) < (na : Int) := by omega
      have wi2 : ((i : Int)).toNat = i := by omega
      have hil : i < ds.length := by rw [HNA.out]; exact hlt
      obtain ⟨aa, rfl, -, -⟩ := (hI.at_ 1 rfl : Digs wr bB Aa na ds ∧ _).1.elem hil
      have HDJ : Hid (ds[i].length = 32) := Lib.hid (HD32.out _ (List.getElem_mem hil))
      have HX : Hid (∀ W, All W [.low (.blobs bB Ay ny ly), .low (.digs bB (some aa) na ds), .low (.digs bB Ar nr roots), .kept w w.heap.size] → ∀ j u, (ds[i].map bv)[j]? = some u → W.cell? ((aa.add (i * 32)).add j) = some u) := Lib.hid (fun W hW => by
        obtain ⟨a', e, -, hc⟩ := (hW.at_ 1 rfl : Digs W bB (some aa) na ds ∧ _).1.elem hil
        obtain rfl := Option.some.inj e
        exact hc)
      generalize ds[i] = d at *
      clear hil
      have HX0 := HX
      have HR2 : Hid ((∀ x ∈ roots ++ [d], x.length = 32) ∧ (roots ++ [d]).length = nr + 1) := Lib.hid ⟨fun x hx => by
        rcases List.mem_append.1 hx with h | h
        · exact HR32.out x h
        · rw [List.mem_singleton.1 h]; exact HDJ.out, by rw [List.length_append, HRL.out]; rfl⟩
      have hbI : bB ≤ wr.drew.heap.size := (hI.at_ 0 rfl : _ ∧ bB ≤ wr.heap.size).2
      have HRD : Hid (∀ W, All W [.low (.blobs bB Ay ny ly), .low (.digs bB (some aa) na ds), .low (.digs bB Ar nr roots), .kept w w.heap.size] → Rd W W.heap.size 32 Ar nr (dvs roots).flatten) := Lib.hid (fun W h => ((h.at_ 2 rfl : Digs W bB Ar nr roots ∧ _).1.mono (h.at_ 2 rfl : _ ∧ bB ≤ W.heap.size).2).els.rd)
      have HAP : Hid (∀ (W : World) (A0 : Option Addr) (m c0 : Nat) (xs : List Value), Go.Adm.Own W bB 32 32 A0 m c0 xs → Apart (Value.slice A0 m c0).ownBlock [.low (.blobs bB Ay ny ly), .low (.digs bB (some aa) na ds), .low (.digs bB Ar nr roots), .kept w w.heap.size]) := Lib.hid fun W A0 m c0 xs ho => by
        cases hq : (Value.slice A0 m c0).ownBlock with
        | none => exact Apart.none _
        | some g =>
          have hg := (ho.lt hq).1
          exact ⟨fun g' e => (by injection e with e; subst e; exact hg), fun g' e => (by injection e with e; subst e; exact hg), fun g' e => (by injection e with e; subst e; exact hg), fun g' e => (by injection e with e; subst e; exact Nat.le_trans hwB hg), trivial⟩
      have HCL : Hid (∀ W A9 c9, All W [.low (.blobs bB Ay ny ly), .low (.digs bB (some aa) na ds), .low (.digs bB Ar nr roots), .kept w w.heap.size] → Digs W W.heap.size A9 (nr + 1) (roots ++ [d]) → Calls Tryz.prog 9 #[.slice Ay ny cy, .slice A9 (nr + 1) c9] W (CloRet ly (roots ++ [d]) W)) := Lib.hid (fun W A9 c9 h h9 => Closure_any W W.heap.size Ay ny cy ly ((h.at_ 0 rfl : Blobs W bB Ay ny ly ∧ _).1.mono (h.at_ 0 rfl : _ ∧ bB ≤ W.heap.size).2) A9 (nr + 1) c9 (roots ++ [d]) h9 (by omega) (by omega) (Nat.le_refl _))
      go_upto_region 11 with (fail)
      refine wp_region_came [56, 57, 58, 59, 60, 61, 62, 63, 64, 65, 66, 55, 67, 68, 9, 10]
        (JC (fun j v => match j with
            | 0 => v = .slice Ay ny cy
            | 2 => v = .slice Ar nr cr
            | 4 => v = .slice (some aa) na ca
            | 5 => v = .int .i64 (i : Int)
            | 6 => v = .pointer (some (aa.add (i * 32)))
            | 7 => v = .agg (d.map bv).toArray
            | _ => True)
          (fun W => All W [.low (.blobs bB Ay ny ly), .low (.digs bB (some aa) na ds), .low (.digs bB Ar nr roots), .kept w w.heap.size] ∧ bB ≤ W.heap.size) (CR1 bB 32) (CR3 bB 32 nr roots) (CR8 d) (CR9 (nr + 1) (roots ++ [d])) (CRz ly (roots ++ [d])))
        (by kernel_rfl) (by kernel_rfl) (by simp) (JC.start ⟨hI.drew, hbI⟩) rfl ?hops ?fin
      case hops =>
        refine ⟨?_, ?_, ?_, ?_, ?_, ?_, ?_, ?_, ?_, ?_, ?_, ?_, ?_, ?_, ?_, ?_, trivial⟩
        · refine ⟨rfl, ?_⟩
          intro a W L vs hJ hk hcl hold hb K hK
          have h10 : L 10 = false := by
            cases h10 : L 10 with
            | false => rfl
            | true =>
              have h0 := hcl 10 _ rfl h10 ⟨0, .data⟩ (by simp) rfl
              rw [hk] at h0; cases h0
          have b7 := hold 7 rfl
          go_simp
          exact hK _ _ (by intro h; cases h) (hJ.quiet 0 (by decide) h10 rfl)
        · refine ⟨rfl, ?_⟩
          intro a W L vs hJ hk hcl hold hb K hK
          have h10 : L 10 = false := by
            cases h10 : L 10 with
            | false => rfl
            | true =>
              have h9 := hcl 10 _ rfl h10 ⟨9, .data⟩ (by simp) rfl
              have h3 := hcl 9 _ rfl h9 ⟨3, .data⟩ (by simp) rfl
              have h1 := hcl 3 _ rfl h3 ⟨1, .data⟩ (by simp) rfl
              rw [hk] at h1; cases h1
          have hs := hJ.1.2
          go_simp
          exact hK _ _ (by intro h; cases h) (hJ.step1 h10 ⟨hJ.1.1.alloc _, by simp; omega⟩ (fun v h => h.alloc _) (fun v h => h.alloc _) (fun v h => h.alloc _) trivial ⟨⟨W.heap.size, 0, none⟩, rfl, Go.Adm.Own.lit (base := bB) (e := 32) (size := 32) W #[] 0 hs (by decide) rfl⟩)
        · refine ⟨rfl, ?_⟩
          intro a W L vs hJ hk hcl hold hb K hK
          have h10 : L 10 = false := by
            cases h10 : L 10 with
            | false => rfl
            | true =>
              have h9 := hcl 10 _ rfl h10 ⟨9, .data⟩ (by simp) rfl
              have h3 := hcl 9 _ rfl h9 ⟨3, .data⟩ (by simp) rfl
              have h2 := hcl 3 _ rfl h3 ⟨2, .data⟩ (by simp) rfl
              rw [hk] at h2; cases h2
          have b1 := hold 1 rfl
          go_simp
          exact hK _ _ (by intro h; cases h) (hJ.quiet 2 (by decide) h10 rfl)
        · refine ⟨rfl, ?_⟩
          intro a W L vs hJ hk hcl hold hb K hK
          have h10 : L 10 = false := by
            cases h10 : L 10 with
            | false => rfl
            | true =>
              have h9 := hcl 10 _ rfl h10 ⟨9, .data⟩ (by simp) rfl
              have h3 := hcl 9 _ rfl h9 ⟨3, .data⟩ (by simp) rfl
              rw [hk] at h3; cases h3
          obtain ⟨h1, b57⟩ := hb ⟨1, .data⟩ (by simp) rfl
          replace b57 : a.tmps[57]?.getD undef = vs 1 := b57
          obtain ⟨h2, b58⟩ := hb ⟨2, .data⟩ (by simp) rfl
          replace b58 : a.tmps[58]?.getD undef = vs 2 := b58
          have e2 : vs 2 = _ := (hJ.2.1 h10).1 2 h2
          rw [e2] at b58
          obtain ⟨ad, e1, ho1⟩ := (hJ.2.1 h10).2.1 h1 hk
          rw [e1] at b57
          have hrd := HRD.out W hJ.1.1
          refine wp_app0 el_dg (.tmp 57) (.tmp 58) rfl bB ad (show a.eval (.tmp 57) = _ from by simp only [Act.eval, Array.getD_eq_getD_getElem?]; exact b57) ho1 Ar nr cr (dvs roots).flatten (show a.eval (.tmp 58) = _ from by simp only [Act.eval, Array.getD_eq_getD_getElem?]; exact b58) hrd (dvs_one _) (by omega) hJ.1.2 ?_
          intro A3 c3 w3 ho3 hg3
          exact hK _ _ (by intro h; cases h) (hJ.step3 h10 ⟨All.step hg3 hJ.1.1 (Apart.none _), Nat.le_trans hJ.1.2 hg3.size⟩ (fun v h => h.grown hg3) (fun v h => h.grown hg3) trivial ⟨A3, c3, rfl, ho3⟩)
        · refine ⟨rfl, ?_⟩
          intro a W L vs hJ hk hcl hold hb K hK
          have h10 : L 10 = false := by
            cases h10 : L 10 with
            | false => rfl
            | true =>
              have h9 := hcl 10 _ rfl h10 ⟨9, .data⟩ (by simp) rfl
              have h8 := hcl 9 _ rfl h9 ⟨8, .data⟩ (by simp) rfl
              have h7 := hcl 8 _ rfl h8 ⟨7, .data⟩ (by simp) rfl
              have h6 := hcl 7 _ rfl h7 ⟨6, .data⟩ (by simp) rfl
              have h4 := hcl 6 _ rfl h6 ⟨4, .data⟩ (by simp) rfl
              rw [hk] at h4; cases h4
          have b8 := hold 8 rfl
          go_simp
          exact hK _ _ (by intro h; cases h) (hJ.quiet 4 (by decide) h10 rfl)
        · refine ⟨rfl, ?_⟩
          intro a W L vs hJ hk hcl hold hb K hK
          have h10 : L 10 = false := by
            cases h10 : L 10 with
            | false => rfl
            | true =>
              have h9 := hcl 10 _ rfl h10 ⟨9, .data⟩ (by simp) rfl
              have h8 := hcl 9 _ rfl h9 ⟨8, .data⟩ (by simp) rfl
              have h7 := hcl 8 _ rfl h8 ⟨7, .data⟩ (by simp) rfl
              have h6 := hcl 7 _ rfl h7 ⟨6, .data⟩ (by simp) rfl
              have h5 := hcl 6 _ rfl h6 ⟨5, .data⟩ (by simp) rfl
              rw [hk] at h5; cases h5
          have b13 := hold 13 rfl
          go_simp
          exact hK _ _ (by intro h; cases h) (hJ.quiet 5 (by decide) h10 rfl)
        · refine ⟨rfl, ?_⟩
          intro a W L vs hJ hk hcl hold hb K hK
          have h10 : L 10 = false := by
            cases h10 : L 10 with
            | false => rfl
            | true =>
              have h9 := hcl 10 _ rfl h10 ⟨9, .data⟩ (by simp) rfl
              have h8 := hcl 9 _ rfl h9 ⟨8, .data⟩ (by simp) rfl
              have h7 := hcl 8 _ rfl h8 ⟨7, .data⟩ (by simp) rfl
              have h6 := hcl 7 _ rfl h7 ⟨6, .data⟩ (by simp) rfl
              rw [hk] at h6; cases h6
          obtain ⟨h4, b60⟩ := hb ⟨4, .data⟩ (by simp) rfl
          replace b60 : a.tmps[60]?.getD undef = vs 4 := b60
          obtain ⟨h5, b61⟩ := hb ⟨5, .data⟩ (by simp) rfl
          replace b61 : a.tmps[61]?.getD undef = vs 5 := b61
          have e4 : vs 4 = _ := (hJ.2.1 h10).1 4 h4
          rw [e4] at b60
          have e5 : vs 5 = _ := (hJ.2.1 h10).1 5 h5
          rw [e5] at b61
          go_simp
          exact hK _ _ (by intro h; cases h) (hJ.quiet 6 (by decide) h10 rfl)
        · refine ⟨rfl, ?_⟩
          intro a W L vs hJ hk hcl hold hb K hK
          have h10 : L 10 = false := by
            cases h10 : L 10 with
            | false => rfl
            | true =>
              have h9 := hcl 10 _ rfl h10 ⟨9, .data⟩ (by simp) rfl
              have h8 := hcl 9 _ rfl h9 ⟨8, .data⟩ (by simp) rfl
              have h7 := hcl 8 _ rfl h8 ⟨7, .data⟩ (by simp) rfl
              rw [hk] at h7; cases h7
          obtain ⟨h6, b62⟩ := hb ⟨6, .data⟩ (by simp) rfl
          replace b62 : a.tmps[62]?.getD undef = vs 6 := b62
          have e6 : vs 6 = _ := (hJ.2.1 h10).1 6 h6
          rw [e6] at b62
          refine wp_load_any 32 (.tmp 62) rfl (aa.add (i * 32)) (show a.eval (.tmp 62) = _ from by simp only [Act.eval, Array.getD_eq_getD_getElem?]; exact b62) (d.map bv) _ (HX.out W hJ.1.1) Tryz.underlying32 rfl (by rw [List.length_map, HDJ.out]; kernel_rfl) ?_
          exact hK _ _ (by intro h; cases h) (hJ.quiet 7 (by decide) h10 rfl)
        · refine ⟨rfl, ?_⟩
          intro a W L vs hJ hk hcl hold hb K hK
          have h10 : L 10 = false := by
            cases h10 : L 10 with
            | false => rfl
            | true =>
              have h9 := hcl 10 _ rfl h10 ⟨9, .data⟩ (by simp) rfl
              have h8 := hcl 9 _ rfl h9 ⟨8, .data⟩ (by simp) rfl
              rw [hk] at h8; cases h8
          obtain ⟨h7, b63⟩ := hb ⟨7, .data⟩ (by simp) rfl
          replace b63 : a.tmps[63]?.getD undef = vs 7 := b63
          have e7 : vs 7 = _ := (hJ.2.1 h10).1 7 h7
          rw [e7] at b63
          refine wp_lit1 el_dg (.tmp 63) rfl (d.map bv) (show a.eval (.tmp 63) = _ from by simp only [Act.eval, Array.getD_eq_getD_getElem?]; exact b63) (by rw [List.length_map]; exact HDJ.out) (by decide) ?_
          have hs := hJ.1.2
          exact hK _ _ (by intro h; cases h) (hJ.step8 h10 ⟨hJ.1.1.alloc _, by simp; omega⟩ (fun v h => h.alloc _) (fun v h => h.alloc _) (fun v h => h.alloc _) trivial ⟨_, _, rfl, by have := Rd.lit W (d.map bv).toArray 32 1 (size := 32) (by rw [List.size_toArray, List.length_map, HDJ.out]); simpa using this⟩)
        · refine ⟨rfl, ?_⟩
          intro a W L vs hJ hk hcl hold hb K hK
          have h10 : L 10 = false := by
            cases h10 : L 10 with
            | false => rfl
            | true =>
              have h9 := hcl 10 _ rfl h10 ⟨9, .data⟩ (by simp) rfl
              rw [hk] at h9; cases h9
          obtain ⟨h3, b59⟩ := hb ⟨3, .data⟩ (by simp) rfl
          replace b59 : a.tmps[59]?.getD undef = vs 3 := b59
          obtain ⟨h8, b64⟩ := hb ⟨8, .data⟩ (by simp) rfl
          replace b64 : a.tmps[64]?.getD undef = vs 8 := b64
          obtain ⟨A3, c3, e3, ho3⟩ := (hJ.2.1 h10).2.2.1 h3 hk
          obtain ⟨A8, c8, e8, hr8⟩ := (hJ.2.1 h10).2.2.2.1 h8 hk
          rw [e3] at b59
          rw [e8] at b64
          refine wp_app6 _ el_dg (.tmp 59) (.tmp 64) rfl bB A3 nr c3 _ (show a.eval (.tmp 59) = _ from by simp only [Act.eval, Array.getD_eq_getD_getElem?]; exact b59) ho3 W.heap.size A8 1 c8 (d.map bv) (show a.eval (.tmp 64) = _ from by simp only [Act.eval, Array.getD_eq_getD_getElem?]; exact b64) hr8 (bv_one _) (by omega) hJ.1.2 ?_
          intro A9 c9 w9 ho9 hg9 hob9
          exact hK _ _ (by intro h; cases h) (hJ.step9 h10 h3 ⟨All.step hg9 hJ.1.1 (HAP.out _ _ _ _ _ ho3), Nat.le_trans hJ.1.2 hg9.size⟩ trivial ⟨A9, c9, rfl, own_digsC (ho9.cast rfl (by simp [dvs])) HR2.out.1 HR2.out.2⟩)
        · refine ⟨rfl, ?_⟩
          intro a W L vs hJ hk hcl hold hb K hK
          obtain ⟨h0, b56⟩ := hb ⟨0, .data⟩ (by simp) rfl
          replace b56 : a.tmps[56]?.getD undef = vs 0 := b56
          obtain ⟨h9, b65⟩ := hb ⟨9, .data⟩ (by simp) rfl
          replace b65 : a.tmps[65]?.getD undef = vs 9 := b65
          have e0 : vs 0 = _ := (hJ.2.1 hk).1 0 h0
          rw [e0] at b56
          obtain ⟨A9, c9, e9, hd9⟩ := (hJ.2.1 hk).2.2.2.2 h9
          rw [e9] at b65
          have l11 : L 11 = false := by
            cases h11 : L 11 with
            | false => rfl
            | true =>
              have h10 := hcl 11 _ rfl h11 ⟨10, .data⟩ (by simp) rfl
              rw [hk] at h10; cases h10
          have l12 : L 12 = false := by
            cases h12 : L 12 with
            | false => rfl
            | true =>
              have h11 := hcl 12 _ rfl h12 ⟨11, .data⟩ (by simp) rfl
              have h10 := hcl 11 _ rfl h11 ⟨10, .data⟩ (by simp) rfl
              rw [hk] at h10; cases h10
          have l13 : L 13 = false := by
            cases h13 : L 13 with
            | false => rfl
            | true =>
              have h11 := hcl 13 _ rfl h13 ⟨11, .data⟩ (by simp) rfl
              have h10 := hcl 11 _ rfl h11 ⟨10, .data⟩ (by simp) rfl
              rw [hk] at h10; cases h10
          have l14 : L 14 = false := by
            cases h14 : L 14 with
            | false => rfl
            | true =>
              have h12 := hcl 14 _ rfl h14 ⟨12, .data⟩ (by simp) rfl
              have h11 := hcl 12 _ rfl h12 ⟨11, .data⟩ (by simp) rfl
              have h10 := hcl 11 _ rfl h11 ⟨10, .data⟩ (by simp) rfl
              rw [hk] at h10; cases h10
          have l15 : L 15 = false := by
            cases h15 : L 15 with
            | false => rfl
            | true =>
              have h13 := hcl 15 _ rfl h15 ⟨13, .data⟩ (by simp) rfl
              have h11 := hcl 13 _ rfl h13 ⟨11, .data⟩ (by simp) rfl
              have h10 := hcl 11 _ rfl h11 ⟨10, .data⟩ (by simp) rfl
              rw [hk] at h10; cases h10
          have hcl9 := HCL.out W A9 c9 hJ.1.1 hd9
          have hjI := Lib.hid hJ.1
          go_simp
          refine hcl9.mono ?_
          rintro e w' ⟨A1, c1, A2, c2, P, M, rfl, hP, hD1, hD2, hb'⟩
          exact hK _ _ (by intro h; cases h) (hJ.step10 ⟨l11, l12, l13, l14, l15⟩ ⟨hJ.1.1.call hb', Nat.le_trans hJ.1.2 hb'.size⟩ ⟨A1, c1, A2, c2, P, M, rfl, rfl, hP, hD1, hD2⟩)
        · refine ⟨rfl, ?_⟩
          intro a W L vs hJ hk hcl hold hb K hK
          obtain ⟨h10, b66⟩ := hb ⟨10, .data⟩ (by simp) rfl
          replace b66 : a.tmps[66]?.getD undef = vs 10 := b66
          obtain ⟨s1, s2, e10, e11, e12, e13, hput⟩ := hJ.after h10
          rw [e10] at b66
          go_simp
          exact hK _ _ (by intro h; cases h) (hput 11 _ (.inl ⟨rfl, rfl⟩))
        · refine ⟨rfl, ?_⟩
          intro a W L vs hJ hk hcl hold hb K hK
          obtain ⟨h11, b55⟩ := hb ⟨11, .data⟩ (by simp) rfl
          replace b55 : a.tmps[55]?.getD undef = vs 11 := b55
          have h10 := hcl 11 _ rfl h11 ⟨10, .data⟩ (by simp) rfl
          obtain ⟨s1, s2, e10, e11, e12, e13, hput⟩ := hJ.after h10
          rw [e11 h11] at b55
          go_simp
          exact hK _ _ (by intro h; cases h) (hput 12 _ (.inr (.inl ⟨rfl, rfl⟩)))
        · refine ⟨rfl, ?_⟩
          intro a W L vs hJ hk hcl hold hb K hK
          obtain ⟨h11, b55⟩ := hb ⟨11, .data⟩ (by simp) rfl
          replace b55 : a.tmps[55]?.getD undef = vs 11 := b55
          have h10 := hcl 11 _ rfl h11 ⟨10, .data⟩ (by simp) rfl
          obtain ⟨s1, s2, e10, e11, e12, e13, hput⟩ := hJ.after h10
          rw [e11 h11] at b55
          go_simp
          exact hK _ _ (by intro h; cases h) (hput 13 _ (.inr (.inr (.inl ⟨rfl, rfl⟩))))
        · refine ⟨rfl, ?_⟩
          intro a W L vs hJ hk hcl hold hb K hK
          obtain ⟨h12, b67⟩ := hb ⟨12, .data⟩ (by simp) rfl
          replace b67 : a.tmps[67]?.getD undef = vs 12 := b67
          have h11 := hcl 12 _ rfl h12 ⟨11, .data⟩ (by simp) rfl
          have h10 := hcl 11 _ rfl h11 ⟨10, .data⟩ (by simp) rfl
          obtain ⟨s1, s2, e10, e11, e12, e13, hput⟩ := hJ.after h10
          rw [e12 h12] at b67
          go_simp
          exact hK _ _ (by intro h; cases h) (hput 14 _ (.inr (.inr (.inr (.inl ⟨rfl, rfl⟩)))))
        · refine ⟨rfl, ?_⟩
          intro a W L vs hJ hk hcl hold hb K hK
          obtain ⟨h13, b68⟩ := hb ⟨13, .data⟩ (by simp) rfl
          replace b68 : a.tmps[68]?.getD undef = vs 13 := b68
          have h11 := hcl 13 _ rfl h13 ⟨11, .data⟩ (by simp) rfl
          have h10 := hcl 11 _ rfl h11 ⟨10, .data⟩ (by simp) rfl
          obtain ⟨s1, s2, e10, e11, e12, e13, hput⟩ := hJ.after h10
          rw [e13 h13] at b68
          go_simp
          exact hK _ _ (by intro h; cases h) (hput 15 _ (.inr (.inr (.inr (.inr ⟨rfl, rfl⟩)))))
      case fin =>
        intro vs W L hJ hall
        obtain ⟨s1, s2, e10, hz, -, -, -, e14, e15⟩ := hJ.2.2 (hall 10 (by decide))
        replace e14 := e14 (hall 14 (by decide))
        replace e15 := e15 (hall 15 (by decide))
        have hII := hJ.1
        simp only [putAll, List.drop_succ_cons, List.drop_zero, e14, e15, Act.put, List.setIfInBounds_toArray, List.set_cons_succ, List.set_cons_zero]
        clear e14 e15 e10 hJ hall
        obtain ⟨A7, c7, A8, c8, P7, M7, rfl, rfl, hP7, hD7, hD8⟩ := hz
        obtain ⟨hI7, hb7s⟩ := hII
        obtain ⟨b7, hb7⟩ : ∃ b, b = W.heap.size := ⟨_, rfl⟩
        have hB7 : bB ≤ b7 := by omega
        have hJ7 : All W [.low (.digs b7 A7 P7.length P7), .low (.digs b7 A8 M7.length M7), .low (.blobs bB Ay ny ly), .low (.digs bB (some aa) na ds), .low (.digs bB Ar nr roots), .kept w w.heap.size] := ⟨⟨by rw [hb7]; exact hD7, by show b7 ≤ W.heap.size; omega⟩, ⟨by rw [hb7]; exact hD8, by show b7 ≤ W.heap.size; omega⟩, hI7⟩
        have HP7 := Lib.hid hP7
        clear hD7 hD8 hI7 hb7s hb7 hP7 HX HRD HAP HCL hbI hI
        go_upto_region 12 with (fail)
        have hI := hJ7
        clear hJ7
        have hbI : b7 ≤ W.drew.heap.size := (hI.at_ 0 rfl : _ ∧ b7 ≤ W.heap.size).2
        have HX : Hid (∀ W, All W [.low (.digs b7 A7 P7.length P7), .low (.digs b7 A8 M7.length M7), .low (.blobs bB Ay ny ly), .low (.digs bB (some aa) na ds), .low (.digs bB Ar nr roots), .kept w w.heap.size] → ∀ j u, (d.map bv)[j]? = some u → W.cell? ((aa.add (i * 32)).add j) = some u) := Lib.hid (fun W hW => HX0.out W ⟨hW.at_ 2 rfl, hW.at_ 3 rfl, hW.at_ 4 rfl, hW.at_ 5 rfl, trivial⟩)
        have HRD : Hid (∀ W, All W [.low (.digs b7 A7 P7.length P7), .low (.digs b7 A8 M7.length M7), .low (.blobs bB Ay ny ly), .low (.digs bB (some aa) na ds), .low (.digs bB Ar nr roots), .kept w w.heap.size] → Rd W W.heap.size 32 Ar nr (dvs roots).flatten) := Lib.hid (fun W h => ((h.at_ 4 rfl : Digs W bB Ar nr roots ∧ _).1.mono (h.at_ 4 rfl : _ ∧ bB ≤ W.heap.size).2).els.rd)
        have HAP : Hid (∀ (W : World) (A0 : Option Addr) (m c0 : Nat) (xs : List Value), Go.Adm.Own W b7 32 32 A0 m c0 xs → Apart (Value.slice A0 m c0).ownBlock [.low (.digs b7 A7 P7.length P7), .low (.digs b7 A8 M7.length M7), .low (.blobs bB Ay ny ly), .low (.digs bB (some aa) na ds), .low (.digs bB Ar nr roots), .kept w w.heap.size]) := Lib.hid fun W A0 m c0 xs ho => by
          cases hq : (Value.slice A0 m c0).ownBlock with
          | none => exact Apart.none _
          | some g =>
            have hg := (ho.lt hq).1
            exact ⟨fun g' e => (by injection e with e; subst e; exact hg), fun g' e => (by injection e with e; subst e; exact hg), fun g' e => (by injection e with e; subst e; exact Nat.le_trans hB7 hg), fun g' e => (by injection e with e; subst e; exact Nat.le_trans hB7 hg), fun g' e => (by injection e with e; subst e; exact Nat.le_trans hB7 hg), fun g' e => (by injection e with e; subst e; exact Nat.le_trans hwB (Nat.le_trans hB7 hg)), trivial⟩
        have HCL : Hid (∀ W A9 c9, All W [.low (.digs b7 A7 P7.length P7), .low (.digs b7 A8 M7.length M7), .low (.blobs bB Ay ny ly), .low (.digs bB (some aa) na ds), .low (.digs bB Ar nr roots), .kept w w.heap.size] → Digs W W.heap.size A9 (nr + 1) (roots ++ [d]) → Calls Tryz.prog 10 #[.slice Ay ny cy, .slice A9 (nr + 1) c9] W (CloRet ly (roots ++ [d]) W)) := Lib.hid (fun W A9 c9 h h9 => refClosure_any W m (HM.out W (h.at_ 5 rfl : _ ∧ _).1) W.heap.size Ay ny cy ly ((h.at_ 2 rfl : Blobs W bB Ay ny ly ∧ _).1.mono (h.at_ 2 rfl : _ ∧ bB ≤ W.heap.size).2) A9 (nr + 1) c9 (roots ++ [d]) h9 (by omega) (by omega) (Nat.le_refl _))
        generalize W = wz at *
        refine wp_region_came [70, 71, 72, 73, 74, 75, 76, 77, 78, 79, 80, 69, 81, 82, 11, 12]
          (JC (fun j v => match j with
              | 0 => v = .slice Ay ny cy
              | 2 => v = .slice Ar nr cr
              | 4 => v = .slice (some aa) na ca
              | 5 => v = .int .i64 (i : Int)
              | 6 => v = .pointer (some (aa.add (i * 32)))
              | 7 => v = .agg (d.map bv).toArray
              | _ => True)
            (fun W => All W [.low (.digs b7 A7 P7.length P7), .low (.digs b7 A8 M7.length M7), .low (.blobs bB Ay ny ly), .low (.digs bB (some aa) na ds), .low (.digs bB Ar nr roots), .kept w w.heap.size] ∧ b7 ≤ W.heap.size) (CR1 b7 32) (CR3 b7 32 nr roots) (CR8 d) (CR9 (nr + 1) (roots ++ [d])) (CRz ly (roots ++ [d])))
          (by kernel_rfl) (by kernel_rfl) (by simp) (JC.start ⟨hI.drew, hbI⟩) rfl ?hops ?fin
        case hops =>
          refine ⟨?_, ?_, ?_, ?_, ?_, ?_, ?_, ?_, ?_, ?_, ?_, ?_, ?_, ?_, ?_, ?_, trivial⟩
          · refine ⟨rfl, ?_⟩
            intro a W L vs hJ hk hcl hold hb K hK
            have h10 : L 10 = false := by
              cases h10 : L 10 with
              | false => rfl
              | true =>
                have h0 := hcl 10 _ rfl h10 ⟨0, .data⟩ (by simp) rfl
                rw [hk] at h0; cases h0
            have b7 := hold 7 rfl
            go_simp
            exact hK _ _ (by intro h; cases h) (hJ.quiet 0 (by decide) h10 rfl)
          · refine ⟨rfl, ?_⟩
            intro a W L vs hJ hk hcl hold hb K hK
            have h10 : L 10 = false := by
              cases h10 : L 10 with
              | false => rfl
              | true =>
                have h9 := hcl 10 _ rfl h10 ⟨9, .data⟩ (by simp) rfl
                have h3 := hcl 9 _ rfl h9 ⟨3, .data⟩ (by simp) rfl
                have h1 := hcl 3 _ rfl h3 ⟨1, .data⟩ (by simp) rfl
                rw [hk] at h1; cases h1
            have hs := hJ.1.2
            go_simp
            exact hK _ _ (by intro h; cases h) (hJ.step1 h10 ⟨hJ.1.1.alloc _, by simp; omega⟩ (fun v h => h.alloc _) (fun v h => h.alloc _) (fun v h => h.alloc _) trivial ⟨⟨W.heap.size, 0, none⟩, rfl, Go.Adm.Own.lit (base := b7) (e := 32) (size := 32) W #[] 0 hs (by decide) rfl⟩)
          · refine ⟨rfl, ?_⟩
            intro a W L vs hJ hk hcl hold hb K hK
            have h10 : L 10 = false := by
              cases h10 : L 10 with
              | false => rfl
              | true =>
                have h9 := hcl 10 _ rfl h10 ⟨9, .data⟩ (by simp) rfl
                have h3 := hcl 9 _ rfl h9 ⟨3, .data⟩ (by simp) rfl
                have h2 := hcl 3 _ rfl h3 ⟨2, .data⟩ (by simp) rfl
                rw [hk] at h2; cases h2
            have b1 := hold 1 rfl
            go_simp
            exact hK _ _ (by intro h; cases h) (hJ.quiet 2 (by decide) h10 rfl)
          · refine ⟨rfl, ?_⟩
            intro a W L vs hJ hk hcl hold hb K hK
            have h10 : L 10 = false := by
              cases h10 : L 10 with
              | false => rfl
              | true =>
                have h9 := hcl 10 _ rfl h10 ⟨9, .data⟩ (by simp) rfl
                have h3 := hcl 9 _ rfl h9 ⟨3, .data⟩ (by simp) rfl
                rw [hk] at h3; cases h3
            obtain ⟨h1, b71⟩ := hb ⟨1, .data⟩ (by simp) rfl
            replace b71 : a.tmps[71]?.getD undef = vs 1 := b71
            obtain ⟨h2, b72⟩ := hb ⟨2, .data⟩ (by simp) rfl
            replace b72 : a.tmps[72]?.getD undef = vs 2 := b72
            have e2 : vs 2 = _ := (hJ.2.1 h10).1 2 h2
            rw [e2] at b72
            obtain ⟨ad, e1, ho1⟩ := (hJ.2.1 h10).2.1 h1 hk
            rw [e1] at b71
            have hrd := HRD.out W hJ.1.1
            refine wp_app0 el_dg (.tmp 71) (.tmp 72) rfl b7 ad (show a.eval (.tmp 71) = _ from by simp only [Act.eval, Array.getD_eq_getD_getElem?]; exact b71) ho1 Ar nr cr (dvs roots).flatten (show a.eval (.tmp 72) = _ from by simp only [Act.eval, Array.getD_eq_getD_getElem?]; exact b72) hrd (dvs_one _) (by omega) hJ.1.2 ?_
            intro A3 c3 w3 ho3 hg3
            exact hK _ _ (by intro h; cases h) (hJ.step3 h10 ⟨All.step hg3 hJ.1.1 (Apart.none _), Nat.le_trans hJ.1.2 hg3.size⟩ (fun v h => h.grown hg3) (fun v h => h.grown hg3) trivial ⟨A3, c3, rfl, ho3⟩)
          · refine ⟨rfl, ?_⟩
            intro a W L vs hJ hk hcl hold hb K hK
            have h10 : L 10 = false := by
              cases h10 : L 10 with
              | false => rfl
              | true =>
                have h9 := hcl 10 _ rfl h10 ⟨9, .data⟩ (by simp) rfl
                have h8 := hcl 9 _ rfl h9 ⟨8, .data⟩ (by simp) rfl
                have h7 := hcl 8 _ rfl h8 ⟨7, .data⟩ (by simp) rfl
                have h6 := hcl 7 _ rfl h7 ⟨6, .data⟩ (by simp) rfl
                have h4 := hcl 6 _ rfl h6 ⟨4, .data⟩ (by simp) rfl
                rw [hk] at h4; cases h4
            have b8 := hold 8 rfl
            go_simp
            exact hK _ _ (by intro h; cases h) (hJ.quiet 4 (by decide) h10 rfl)
          · refine ⟨rfl, ?_⟩
            intro a W L vs hJ hk hcl hold hb K hK
            have h10 : L 10 = false := by
              cases h10 : L 10 with
              | false => rfl
              | true =>
                have h9 := hcl 10 _ rfl h10 ⟨9, .data⟩ (by simp) rfl
                have h8 := hcl 9 _ rfl h9 ⟨8, .data⟩ (by simp) rfl
                have h7 := hcl 8 _ rfl h8 ⟨7, .data⟩ (by simp) rfl
                have h6 := hcl 7 _ rfl h7 ⟨6, .data⟩ (by simp) rfl
                have h5 := hcl 6 _ rfl h6 ⟨5, .data⟩ (by simp) rfl
                rw [hk] at h5; cases h5
            have b13 := hold 13 rfl
            go_simp
            exact hK _ _ (by intro h; cases h) (hJ.quiet 5 (by decide) h10 rfl)
          · refine ⟨rfl, ?_⟩
            intro a W L vs hJ hk hcl hold hb K hK
            have h10 : L 10 = false := by
              cases h10 : L 10 with
              | false => rfl
              | true =>
                have h9 := hcl 10 _ rfl h10 ⟨9, .data⟩ (by simp) rfl
                have h8 := hcl 9 _ rfl h9 ⟨8, .data⟩ (by simp) rfl
                have h7 := hcl 8 _ rfl h8 ⟨7, .data⟩ (by simp) rfl
                have h6 := hcl 7 _ rfl h7 ⟨6, .data⟩ (by simp) rfl
                rw [hk] at h6; cases h6
            obtain ⟨h4, b74⟩ := hb ⟨4, .data⟩ (by simp) rfl
            replace b74 : a.tmps[74]?.getD undef = vs 4 := b74
            obtain ⟨h5, b75⟩ := hb ⟨5, .data⟩ (by simp) rfl
            replace b75 : a.tmps[75]?.getD undef = vs 5 := b75
            have e4 : vs 4 = _ := (hJ.2.1 h10).1 4 h4
            rw [e4] at b74
            have e5 : vs 5 = _ := (hJ.2.1 h10).1 5 h5
            rw [e5] at b75
            go_simp
            exact hK _ _ (by intro h; cases h) (hJ.quiet 6 (by decide) h10 rfl)
          · refine ⟨rfl, ?_⟩
            intro a W L vs hJ hk hcl hold hb K hK
            have h10 : L 10 = false := by
              cases h10 : L 10 with
              | false => rfl
              | true =>
                have h9 := hcl 10 _ rfl h10 ⟨9, .data⟩ (by simp) rfl
                have h8 := hcl 9 _ rfl h9 ⟨8, .data⟩ (by simp) rfl
                have h7 := hcl 8 _ rfl h8 ⟨7, .data⟩ (by simp) rfl
                rw [hk] at h7; cases h7
            obtain ⟨h6, b76⟩ := hb ⟨6, .data⟩ (by simp) rfl
            replace b76 : a.tmps[76]?.getD undef = vs 6 := b76
            have e6 : vs 6 = _ := (hJ.2.1 h10).1 6 h6
            rw [e6] at b76
            refine wp_load_any 32 (.tmp 76) rfl (aa.add (i * 32)) (show a.eval (.tmp 76) = _ from by simp only [Act.eval, Array.getD_eq_getD_getElem?]; exact b76) (d.map bv) _ (HX.out W hJ.1.1) Tryz.underlying32 rfl (by rw [List.length_map, HDJ.out]; kernel_rfl) ?_
            exact hK _ _ (by intro h; cases h) (hJ.quiet 7 (by decide) h10 rfl)
          · refine ⟨rfl, ?_⟩
            intro a W L vs hJ hk hcl hold hb K hK
            have h10 : L 10 = false := by
              cases h10 : L 10 with
              | false => rfl
              | true =>
                have h9 := hcl 10 _ rfl h10 ⟨9, .data⟩ (by simp) rfl
                have h8 := hcl 9 _ rfl h9 ⟨8, .data⟩ (by simp) rfl
                rw [hk] at h8; cases h8
            obtain ⟨h7, b77⟩ := hb ⟨7, .data⟩ (by simp) rfl
            replace b77 : a.tmps[77]?.getD undef = vs 7 := b77
            have e7 : vs 7 = _ := (hJ.2.1 h10).1 7 h7
            rw [e7] at b77
            refine wp_lit1 el_dg (.tmp 77) rfl (d.map bv) (show a.eval (.tmp 77) = _ from by simp only [Act.eval, Array.getD_eq_getD_getElem?]; exact b77) (by rw [List.length_map]; exact HDJ.out) (by decide) ?_
            have hs := hJ.1.2
            exact hK _ _ (by intro h; cases h) (hJ.step8 h10 ⟨hJ.1.1.alloc _, by simp; omega⟩ (fun v h => h.alloc _) (fun v h => h.alloc _) (fun v h => h.alloc _) trivial ⟨_, _, rfl, by have := Rd.lit W (d.map bv).toArray 32 1 (size := 32) (by rw [List.size_toArray, List.length_map, HDJ.out]); simpa using this⟩)
          · refine ⟨rfl, ?_⟩
            intro a W L vs hJ hk hcl hold hb K hK
            have h10 : L 10 = false := by
              cases h10 : L 10 with
              | false => rfl
              | true =>
                have h9 := hcl 10 _ rfl h10 ⟨9, .data⟩ (by simp) rfl
                rw [hk] at h9; cases h9
            obtain ⟨h3, b73⟩ := hb ⟨3, .data⟩ (by simp) rfl
            replace b73 : a.tmps[73]?.getD undef = vs 3 := b73
            obtain ⟨h8, b78⟩ := hb ⟨8, .data⟩ (by simp) rfl
            replace b78 : a.tmps[78]?.getD undef = vs 8 := b78
            obtain ⟨A3, c3, e3, ho3⟩ := (hJ.2.1 h10).2.2.1 h3 hk
            obtain ⟨A8, c8, e8, hr8⟩ := (hJ.2.1 h10).2.2.2.1 h8 hk
            rw [e3] at b73
            rw [e8] at b78
            refine wp_app6 _ el_dg (.tmp 73) (.tmp 78) rfl b7 A3 nr c3 _ (show a.eval (.tmp 73) = _ from by simp only [Act.eval, Array.getD_eq_getD_getElem?]; exact b73) ho3 W.heap.size A8 1 c8 (d.map bv) (show a.eval (.tmp 78) = _ from by simp only [Act.eval, Array.getD_eq_getD_getElem?]; exact b78) hr8 (bv_one _) (by omega) hJ.1.2 ?_
            intro A9 c9 w9 ho9 hg9 hob9
            exact hK _ _ (by intro h; cases h) (hJ.step9 h10 h3 ⟨All.step hg9 hJ.1.1 (HAP.out _ _ _ _ _ ho3), Nat.le_trans hJ.1.2 hg9.size⟩ trivial ⟨A9, c9, rfl, own_digsC (ho9.cast rfl (by simp [dvs])) HR2.out.1 HR2.out.2⟩)
          · refine ⟨rfl, ?_⟩
            intro a W L vs hJ hk hcl hold hb K hK
            obtain ⟨h0, b70⟩ := hb ⟨0, .data⟩ (by simp) rfl
            replace b70 : a.tmps[70]?.getD undef = vs 0 := b70
            obtain ⟨h9, b79⟩ := hb ⟨9, .data⟩ (by simp) rfl
            replace b79 : a.tmps[79]?.getD undef = vs 9 := b79
            have e0 : vs 0 = _ := (hJ.2.1 hk).1 0 h0
            rw [e0] at b70
            obtain ⟨A9, c9, e9, hd9⟩ := (hJ.2.1 hk).2.2.2.2 h9
            rw [e9] at b79
            have l11 : L 11 = false := by
              cases h11 : L 11 with
              | false => rfl
              | true =>
                have h10 := hcl 11 _ rfl h11 ⟨10, .data⟩ (by simp) rfl
                rw [hk] at h10; cases h10
            have l12 : L 12 = false := by
              cases h12 : L 12 with
              | false => rfl
              | true =>
                have h11 := hcl 12 _ rfl h12 ⟨11, .data⟩ (by simp) rfl
                have h10 := hcl 11 _ rfl h11 ⟨10, .data⟩ (by simp) rfl
                rw [hk] at h10; cases h10
            have l13 : L 13 = false := by
              cases h13 : L 13 with
              | false => rfl
              | true =>
                have h11 := hcl 13 _ rfl h13 ⟨11, .data⟩ (by simp) rfl
                have h10 := hcl 11 _ rfl h11 ⟨10, .data⟩ (by simp) rfl
                rw [hk] at h10; cases h10
            have l14 : L 14 = false := by
              cases h14 : L 14 with
              | false => rfl
              | true =>
                have h12 := hcl 14 _ rfl h14 ⟨12, .data⟩ (by simp) rfl
                have h11 := hcl 12 _ rfl h12 ⟨11, .data⟩ (by simp) rfl
                have h10 := hcl 11 _ rfl h11 ⟨10, .data⟩ (by simp) rfl
                rw [hk] at h10; cases h10
            have l15 : L 15 = false := by
              cases h15 : L 15 with
              | false => rfl
              | true =>
                have h13 := hcl 15 _ rfl h15 ⟨13, .data⟩ (by simp) rfl
                have h11 := hcl 13 _ rfl h13 ⟨11, .data⟩ (by simp) rfl
                have h10 := hcl 11 _ rfl h11 ⟨10, .data⟩ (by simp) rfl
                rw [hk] at h10; cases h10
            have hcl9 := HCL.out W A9 c9 hJ.1.1 hd9
            have hjI := Lib.hid hJ.1
            go_simp
            refine hcl9.mono ?_
            rintro e w' ⟨A1, c1, A2, c2, P, M, rfl, hP, hD1, hD2, hb'⟩
            exact hK _ _ (by intro h; cases h) (hJ.step10 ⟨l11, l12, l13, l14, l15⟩ ⟨hJ.1.1.call hb', Nat.le_trans hJ.1.2 hb'.size⟩ ⟨A1, c1, A2, c2, P, M, rfl, rfl, hP, hD1, hD2⟩)
          · refine ⟨rfl, ?_⟩
            intro a W L vs hJ hk hcl hold hb K hK
            obtain ⟨h10, b80⟩ := hb ⟨10, .data⟩ (by simp) rfl
            replace b80 : a.tmps[80]?.getD undef = vs 10 := b80
            obtain ⟨s1, s2, e10, e11, e12, e13, hput⟩ := hJ.after h10
            rw [e10] at b80
            go_simp
            exact hK _ _ (by intro h; cases h) (hput 11 _ (.inl ⟨rfl, rfl⟩))
          · refine ⟨rfl, ?_⟩
            intro a W L vs hJ hk hcl hold hb K hK
            obtain ⟨h11, b69⟩ := hb ⟨11, .data⟩ (by simp) rfl
            replace b69 : a.tmps[69]?.getD undef = vs 11 := b69
            have h10 := hcl 11 _ rfl h11 ⟨10, .data⟩ (by simp) rfl
            obtain ⟨s1, s2, e10, e11, e12, e13, hput⟩ := hJ.after h10
            rw [e11 h11] at b69
            go_simp
            exact hK _ _ (by intro h; cases h) (hput 12 _ (.inr (.inl ⟨rfl, rfl⟩)))
          · refine ⟨rfl, ?_⟩
            intro a W L vs hJ hk hcl hold hb K hK
            obtain ⟨h11, b69⟩ := hb ⟨11, .data⟩ (by simp) rfl
            replace b69 : a.tmps[69]?.getD undef = vs 11 := b69
            have h10 := hcl 11 _ rfl h11 ⟨10, .data⟩ (by simp) rfl
            obtain ⟨s1, s2, e10, e11, e12, e13, hput⟩ := hJ.after h10
            rw [e11 h11] at b69
            go_simp
            exact hK _ _ (by intro h; cases h) (hput 13 _ (.inr (.inr (.inl ⟨rfl, rfl⟩))))
          · refine ⟨rfl, ?_⟩
            intro a W L vs hJ hk hcl hold hb K hK
            obtain ⟨h12, b81⟩ := hb ⟨12, .data⟩ (by simp) rfl
            replace b81 : a.tmps[81]?.getD undef = vs 12 := b81
            have h11 := hcl 12 _ rfl h12 ⟨11, .data⟩ (by simp) rfl
            have h10 := hcl 11 _ rfl h11 ⟨10, .data⟩ (by simp) rfl
            obtain ⟨s1, s2, e10, e11, e12, e13, hput⟩ := hJ.after h10
            rw [e12 h12] at b81
            go_simp
            exact hK _ _ (by intro h; cases h) (hput 14 _ (.inr (.inr (.inr (.inl ⟨rfl, rfl⟩)))))
          · refine ⟨rfl, ?_⟩
            intro a W L vs hJ hk hcl hold hb K hK
            obtain ⟨h13, b82⟩ := hb ⟨13, .data⟩ (by simp) rfl
            replace b82 : a.tmps[82]?.getD undef = vs 13 := b82
            have h11 := hcl 13 _ rfl h13 ⟨11, .data⟩ (by simp) rfl
            have h10 := hcl 11 _ rfl h11 ⟨10, .data⟩ (by simp) rfl
            obtain ⟨s1, s2, e10, e11, e12, e13, hput⟩ := hJ.after h10
            rw [e13 h13] at b82
            go_simp
            exact hK _ _ (by intro h; cases h) (hput 15 _ (.inr (.inr (.inr (.inr ⟨rfl, rfl⟩)))))
        case fin =>
          intro vs W L hJ hall
          obtain ⟨s1, s2, e10, hz, -, -, -, e14, e15⟩ := hJ.2.2 (hall 10 (by decide))
          replace e14 := e14 (hall 14 (by decide))
          replace e15 := e15 (hall 15 (by decide))
          have hII := hJ.1
          simp only [putAll, List.drop_succ_cons, List.drop_zero, e14, e15, Act.put, List.setIfInBounds_toArray, List.set_cons_succ, List.set_cons_zero]
          clear e14 e15 e10 hJ hall
          obtain ⟨A9, c9, A10, c10, P9, M9, rfl, rfl, hP9, hD9, hD10⟩ := hz
          obtain ⟨rfl, rfl⟩ := hP9.uniq HP7.out
          have hpl := hP9.len
          obtain ⟨hI9, hb8s⟩ := hII
          obtain ⟨b8, hb8⟩ : ∃ b, b = W.heap.size := ⟨_, rfl⟩
          have hK : All W [.low (.digs b8 A9 P9.length P9), .low (.digs b8 A10 M9.length M9), .low (.digs b7 A7 P9.length P9), .low (.digs b7 A8 M9.length M9), .low (.blobs bB Ay ny ly), .low (.digs bB (some aa) na ds), .low (.digs bB Ar nr roots), .kept w w.heap.size] := ⟨⟨by rw [hb8]; exact hD9, by show b8 ≤ W.heap.size; omega⟩, ⟨by rw [hb8]; exact hD10, by show b8 ≤ W.heap.size; omega⟩, hI9⟩
          clear hD9 hD10 hI9 hb8s hb8 hP9 HP7 HX HRD HAP HCL hbI hI
          have HT1 : Hid (∀ W, All W [.low (.digs b8 A9 P9.length P9), .low (.digs b8 A10 M9.length M9), .low (.digs b7 A7 P9.length P9), .low (.digs b7 A8 M9.length M9), .low (.blobs bB Ay ny ly), .low (.digs bB (some aa) na ds), .low (.digs bB Ar nr roots), .kept w w.heap.size] → Calls Tryz.prog 11 #[.slice A7 P9.length c7, .slice A9 P9.length c9] W fun e w' => e = .returned (.bool true) ∧ Below W.heap.size W w') := Lib.hid (fun W h => SameDigs_true W W.heap.size A7 A9 P9.length c7 c9 P9 ((h.at_ 2 rfl : Digs W b7 A7 _ P9 ∧ _).1.mono (h.at_ 2 rfl : _ ∧ b7 ≤ W.heap.size).2) ((h.at_ 0 rfl : Digs W b8 A9 _ P9 ∧ _).1.mono (h.at_ 0 rfl : _ ∧ b8 ≤ W.heap.size).2) (by omega) (Nat.le_refl _))
          have HT2 : Hid (∀ W, All W [.low (.digs b8 A9 P9.length P9), .low (.digs b8 A10 M9.length M9), .low (.digs b7 A7 P9.length P9), .low (.digs b7 A8 M9.length M9), .low (.blobs bB Ay ny ly), .low (.digs bB (some aa) na ds), .low (.digs bB Ar nr roots), .kept w w.heap.size] → Calls Tryz.prog 11 #[.slice A8 M9.length c8, .slice A10 M9.length c10] W fun e w' => e = .returned (.bool true) ∧ Below W.heap.size W w') := Lib.hid (fun W h => SameDigs_true W W.heap.size A8 A10 M9.length c8 c10 M9 ((h.at_ 3 rfl : Digs W b7 A8 _ M9 ∧ _).1.mono (h.at_ 3 rfl : _ ∧ b7 ≤ W.heap.size).2) ((h.at_ 1 rfl : Digs W b8 A10 _ M9 ∧ _).1.mono (h.at_ 1 rfl : _ ∧ b8 ≤ W.heap.size).2) (by omega) (Nat.le_refl _))
          have ht1 := HT1.out W hK
          clear HT1 hpl
          go_wp2_with (first
            | (go_at_call 11; refine ht1.mono ?_; clear ht1; rintro e w8 ⟨rfl, hb8⟩; have hK8 := hK.call hb8; have ht2 := HT2.out w8 hK8; clear hK hb8)
            | (go_at_call 11; refine ht2.mono ?_; clear ht2; rintro e w9 ⟨rfl, hb9⟩; have hK9 := (hK8.call hb9).2.2.2.2; clear hK8 hb9))
          exact ⟨⟨i + 1, by omega, by go_num, hK9⟩, by simp [intOf]; omega⟩
    · have d1 : decide ((i : Int) < (na : Int)) = false := by simp; omega
      have haw := awake_any wr
      go_wp2_with fail
      refine haw.mono ?_
      clear haw
      rintro e w8 ⟨rfl, hb8⟩
      have hI8 := hI.call hb8
      go_wp2_with fail
      go_ret
      exact ⟨rfl, (hI8.at_ 3 rfl : _ ∧ _).1⟩
end Go.Proofs.YtkcmaembpfakdaaGreatDoor

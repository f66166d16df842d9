/- The digests that are words of a document: the program's Links. -/
import Derived.Test.YtkcmaembpfakdaaGreatDoorLkS
import Derived.Test.YtkcmaembpfakdaaGreatDoorMapD
import Derived.Test.YtkcmaembpfakdaaGreatDoorDec3
import Derived.Test.YtkcmaembpfakdaaGreatDoorParP
import Derived.Test.YtkcmaembpfakdaaGreatDoorSto15
set_option linter.unusedSimpArgs false
set_option linter.unusedVariables false
set_option maxRecDepth 100000
namespace Go.Adm
open Go Go.RowKit
def Low.linesL (B : Nat) (A : Option Addr) (n : Nat) (ls : List (List ByteArray)) : Low := ⟨B, fun w => Lines w B A n ls, fun _ _ hk h => h.keep hk⟩
/-- a row of digests of the call's own -/
def OwnD (t : TypeId) (xs : List (List UInt8)) (w : World) (e : Ending) (w' : World) : Prop :=
  ∃ A c, e = .returned (.slice A xs.length c) ∧ Go.Adm.Own w' w.heap.size t 32 A xs.length c (dvs xs).flatten ∧ Below w.heap.size w w'
theorem dvs_snoc (xs : List (List UInt8)) (d : List UInt8) : (dvs (xs ++ [d])).flatten = (dvs xs).flatten ++ d.map bv := by simp [dvs]
theorem digs_own {w : World} {base c : Nat} {t : TypeId} {A : Option Addr} {xs : List (List UInt8)} (h : Go.Adm.Own w base t 32 A xs.length c (dvs xs).flatten) (h32 : ∀ x ∈ xs, x.length = 32) : Digs w w.heap.size A xs.length xs :=
  ⟨Els.of h (fun y hy => by obtain ⟨v, hv, rfl⟩ := List.mem_map.1 hy; rw [List.length_map]; exact h32 v hv) (by rw [dvs_len]), h32, rfl⟩
theorem cell_allD {w : World} {g : Nat} {t : TypeId} {cs : List Value} (h : Cells w g t cs) : ∀ j u, cs[j]? = some u → w.cell? ((⟨g, 0, none⟩ : Addr).add j) = some u := Cells.sub h 0 (fun j u hu => by rwa [Nat.zero_add])
theorem addK_step {ws : List ByteArray} {o : List (List UInt8)} (ho : o = linksW ws) (w : ByteArray) : linksW (ws ++ [w]) = addK o w := by rw [linksW_snoc, ho]
end Go.Adm
namespace Go.Proofs.YtkcmaembpfakdaaGreatDoor
open Go Go.RowKit Go.Adm
set_option maxHeartbeats 12800000 in
theorem Links_any (w : World) (B : Nat) (A : Option Addr) (n c : Nat) (b : List UInt8) (hb : Rd w B 1 A n (b.map bv)) (hnc : n ≤ c) (hcm : c ≤ maxLen) (hB : B ≤ w.heap.size) :
    Calls Tryz.prog 28 #[.slice A n c] w (OwnD 32 (linksB b) w) := by
  have hR : All w [.kept w w.heap.size] := ⟨⟨Below.refl _ _, Nat.le_refl _⟩, trivial⟩
  have hdc := Decode_any w B A n c b hb hnc hcm hB
  have HERR := Lib.hid (linksB_err (b := b))
  obtain ⟨hw1, hw2⟩ := decR_words b
  have HLB : Hid (linksB b = linksW (decR b).1.flatten) := Lib.hid rfl
  have H120 := Lib.hid hw2
  unfold DecPost at hdc
  clear hb hnc hcm hB hw2
  generalize linksB b = r at *
  generalize (decR b).1 = ls at *
  generalize (decR b).2 = er at *
  have hzr := zero_dg
  by_cases he : er = 0
  · have de : (er != 0) = false := by simp [he]
    clear he
    go_enter Tryz.func28, Tryz.ntmps28
    go_upto_region 5 with (go_at_call 49; refine hdc.mono ?_; clear hdc; rintro e w1 ⟨Al, nl, cl, rfl, hL, hlc, hcm1, hb1⟩; have hI1 : All w1 [.low (Low.linesL w1.heap.size Al nl ls), .kept w w.heap.size] := ⟨⟨hL, Nat.le_refl _⟩, ⟨hb1, hb1.size⟩, trivial⟩)
    have HLL := Lib.hid hL.len
    have hnl : nl ≤ 1000 := by rw [← HLL.out]; exact hw1
    obtain ⟨gm, hgm⟩ : ∃ g, g = w1.heap.size := ⟨_, rfl⟩
    have hws : w.heap.size ≤ w1.heap.size := hb1.size
    clear hL hb1 hw1
    go_upto_region 6 with (first
      | (refine wl_newset hI1 rfl rfl ?_; intro w2 hI2)
      | (refine wl_put hI2 0 rfl (.tmp 20) (.tmp 21) (.const (.bool true)) (.inr rfl) w1.heap.size 0 [] rfl z32 rfl rfl rfl rfl (by decide) ⟨fun g e => by injection e with e; simp only [Low.linesL]; omega, fun g e => by injection e with e; omega, trivial⟩ ?_; intro w3 hI3 hs3; simp only [List.set_cons_zero, Nat.zero_add] at hI3))
    rw [← hgm] at hI3
    simp only [← hgm]
    have hI : All w3 [.own gm 32 32 none 0 0 (dvs []).flatten, setM gm 1 [z32], .low (Low.linesL gm Al nl ls), .kept w w.heap.size] := ⟨Go.Adm.Own.nil _ _ _ _, hI3⟩
    have hgw : w.heap.size ≤ gm := by omega
    clear hI1 hI2 hI3 hs3 hws hgm
    go_wp2_with fail
    go_loopw [5, 25] (fun v i wr => ∃ (k : Nat) (A' : Option Addr) (c' : Nat) (o S : List (List UInt8)), k ≤ nl ∧ i = .int .i64 k ∧ v = .slice A' o.length c' ∧ o.length ≤ 120 * k ∧ Hid (o = linksW (ls.take k).flatten) ∧ Hid (∀ d, d ∈ S ↔ d = z32 ∨ d ∈ o) ∧ All wr [.own gm 32 32 A' o.length c' (dvs o).flatten, setM gm (o.length + 1) S, .low (Low.linesL gm Al nl ls), .kept w w.heap.size]) (fun _ i _ => nl - (intOf i).toNat)
    case atStart => exact ⟨0, none, 0, [], [z32], Nat.zero_le _, rfl, rfl, Nat.zero_le _, Lib.hid rfl, Lib.hid (fun d => by simp), hI⟩
    case round =>
      clear hI
      obtain ⟨k, A', c', o, S, hk, rfl, rfl, hok, HO, HS, hI⟩ := hrel
      by_cases hlt : k < nl
      · have d1 : decide ((k : Int) < (nl : Int)) = true := by simp; omega
        have hkl : k < ls.length := by rw [HLL.out]; exact hlt
        obtain ⟨ad, A2, c2, rfl, hadB, hrc, hrn, hrm, hst⟩ := (hI.at_ 2 rfl : Lines wr gm Al nl ls ∧ _).1.at_ hkl
        have HST := Lib.hid (fun W (hW : All W [.low (Low.linesL gm (some ad) nl ls), .kept w w.heap.size]) => by
          obtain ⟨ad', A2', c2', e1, -, e2, -, -, e3⟩ := (hW.at_ 0 rfl : Lines W gm (some ad) nl ls ∧ _).1.at_ hkl
          obtain rfl := Option.some.inj e1
          exact (⟨A2', c2', e2, e3⟩ : ∃ A2 c2, W.cell? (ad.add k) = some (.slice A2 ls[k].length c2) ∧ Strs W gm A2 ls[k].length ls[k]))
        have hI0 : All wr [.own gm 32 32 A' o.length c' (dvs o).flatten, setM gm (o.length + 1) S, .low ⟨gm, fun W => Strs W gm A2 ls[k].length ls[k], fun _ _ hk h => h.keep hk⟩, .low (Low.linesL gm (some ad) nl ls), .kept w w.heap.size] := ⟨hI.1, hI.2.1, ⟨hst, (hI.at_ 2 rfl : _ ∧ gm ≤ wr.heap.size).2⟩, hI.2.2⟩
        have h120 := H120.out _ (List.getElem_mem hkl)
        have HFL := Lib.hid (flat_succ hkl)
        have HO1 : Hid (o = linksW ((ls.take k).flatten ++ ls[k].take 0)) := Lib.hid (by rw [HO.out]; simp)
        clear hst hI HO HST
        generalize ls[k] = row at *
        have wk1 : (0 : Int) ≤ (k : Int) := by omega
        have wk2 : (k : Int) < (nl : Int) := by omega
        have wk3 : ((k : Int)).toNat = k := by omega
        go_wp2_with fail
        obtain ⟨wo, rfl⟩ : ∃ wo : World, wo = wr := ⟨wr, rfl⟩
        go_loopw [5, 31] (fun v i wr => ∃ (j : Nat) (A' : Option Addr) (c' : Nat) (o S : List (List UInt8)), j ≤ row.length ∧ i = .int .i64 j ∧ v = .slice A' o.length c' ∧ o.length ≤ 120 * k + j ∧ Hid (o = linksW ((ls.take k).flatten ++ row.take j)) ∧ Hid (∀ d, d ∈ S ↔ d = z32 ∨ d ∈ o) ∧ All wr [.own gm 32 32 A' o.length c' (dvs o).flatten, setM gm (o.length + 1) S, .low ⟨gm, fun W => Strs W gm A2 row.length row, fun _ _ hk h => h.keep hk⟩, .low (Low.linesL gm (some ad) nl ls), .kept w w.heap.size]) (fun _ i _ => row.length - (intOf i).toNat)
        case atStart => exact ⟨0, A', c', o, S, Nat.zero_le _, rfl, rfl, by omega, HO1, HS, hI0⟩
        case round =>
          clear hI0 HO1 HS hok
          obtain ⟨j, A', c', o, S, hj, rfl, rfl, hok, HO, HS, hI⟩ := hrel
          by_cases hjl : j < row.length
          · have d2 : decide ((j : Int) < (row.length : Int)) = true := by simp; omega
            obtain ⟨a2, rfl, ha2, hc2, hsz⟩ := (hI.at_ 2 rfl : Strs wr gm A2 row.length row ∧ _).1.at_ hjl
            have HTK : Hid (row.take (j + 1) = row.take j ++ [row[j]]) := Lib.hid (List.take_succ_eq_append_getElem hjl)
            have hpa := fun W => Parse_any row[j] W
            generalize row[j] = word at *
            have wj1 : (0 : Int) ≤ (j : Int) := by omega
            have wj2 : (j : Int) < (row.length : Int) := by omega
            have wj3 : ((j : Int)).toNat = j := by omega
            have HPL : Hid (((AdP.parsed word.data.toList).map bv).length = 32) := Lib.hid (by rw [List.length_map]; exact AdP.parsed_len _)
            have hkw : w.heap.size ≤ wr.heap.size := hI.size_kept 4 rfl
            cases hp : AdP.parseD word.data.toList with
            | none =>
              have HO2 : Hid (o = linksW ((ls.take k).flatten ++ row.take (j + 1))) := Lib.hid (by rw [HTK.out, ← List.append_assoc, addK_step HO.out, addK_none hp])
              rw [hp] at hpa
              clear hp HO
              generalize AdP.parsed word.data.toList = pd at *
              go_wp2_with (first
                | (go_at_call 50; refine (hpa _).mono ?_; clear hpa; rintro e w4 ⟨rfl, hb4⟩; have hI4 := hI.call hb4; clear hI)
                | (refine wl_store_at (hI4.new (l := z32.map bv) _ 32 rfl rfl) 0 rfl 32 (.tmp 11) (.tmp 38) rfl w4.heap.size _ _ (pd.map bv) rfl rfl rfl (by rw [HPL.out]; rfl) (by rw [HPL.out]; kernel_rfl) (bv_one _) ⟨fun g e => .inr (by injection e with e; subst e; exact Own.ne (hI4.at_ 0 rfl)), setM_apart (by have := SetIs.lt (setM_get (hI4.at_ 1 rfl)); omega), fun g e => (by have := (hI4.at_ 2 rfl : _ ∧ gm ≤ w4.heap.size).2; injection e with e; subst e; exact this), fun g e => (by have := (hI4.at_ 3 rfl : _ ∧ gm ≤ w4.heap.size).2; injection e with e; subst e; exact this), fun g e => (by have := hI4.size_kept 4 rfl; injection e with e; subst e; exact this), trivial⟩ ?_; intro W5 hI5 hs5))
              exact ⟨⟨j + 1, A', c', o, S, by omega, by go_num, rfl, by omega, HO2, HS, hI5.2⟩, by simp [intOf]; omega⟩
            | some d =>
              have hd32 := AdP.parseD_32 hp
              have HPD : AdP.parsed word.data.toList = d := by unfold AdP.parsed; rw [hp]; rfl
              have HD := Lib.hid hd32
              rw [HPD] at hpa HPL
              rw [hp] at hpa
              clear HPD hd32
              by_cases hds : d ∈ S
              · have HO2 : Hid (o = linksW ((ls.take k).flatten ++ row.take (j + 1))) := Lib.hid (by rw [HTK.out, ← List.append_assoc, addK_step HO.out, addK_had hp ((HS.out d).1 hds)])
                have dd : decide (d ∈ S) = true := by simpa using hds
                clear hp HO
                go_wp2_with (first
                  | (go_at_call 50; refine (hpa _).mono ?_; clear hpa; rintro e w4 ⟨rfl, hb4⟩; have hI4 := hI.call hb4; clear hI)
                  | (refine wl_store_at (hI4.new (l := z32.map bv) _ 32 rfl rfl) 0 rfl 32 (.tmp 11) (.tmp 38) rfl w4.heap.size _ _ (d.map bv) rfl rfl rfl (by rw [HPL.out]; rfl) (by rw [HPL.out]; kernel_rfl) (bv_one _) ⟨fun g e => .inr (by injection e with e; subst e; exact Own.ne (hI4.at_ 0 rfl)), setM_apart (by have := SetIs.lt (setM_get (hI4.at_ 1 rfl)); omega), fun g e => (by have := (hI4.at_ 2 rfl : _ ∧ gm ≤ w4.heap.size).2; injection e with e; subst e; exact this), fun g e => (by have := (hI4.at_ 3 rfl : _ ∧ gm ≤ w4.heap.size).2; injection e with e; subst e; exact this), fun g e => (by have := hI4.size_kept 4 rfl; injection e with e; subst e; exact this), trivial⟩ ?_; intro W5 hI5 hs5; simp only [List.set_cons_zero] at hI5)
                  | (refine wl_load_met rfl 32 (.tmp 11) rfl ⟨w4.heap.size, 0, none⟩ rfl (d.map bv) _ (cell_allD (hI5.at_ 0 rfl)) Tryz.underlying32 rfl (by rw [HPL.out]; kernel_rfl) ?_)
                  | (refine wl_look hI5 2 rfl (.tmp 42) (.tmp 43) rfl gm (o.length + 1) S rfl d rfl rfl HD.out ?_; rw [dd]))
                exact ⟨⟨j + 1, A', c', o, S, by omega, by go_num, rfl, by omega, HO2, HS, hI5.2⟩, by simp [intOf]; omega⟩
              · have HO2 : Hid (o ++ [d] = linksW ((ls.take k).flatten ++ row.take (j + 1))) := Lib.hid (by rw [HTK.out, ← List.append_assoc, addK_step HO.out, addK_new hp (fun h => hds ((HS.out d).2 h))])
                have HS2 : Hid (∀ x, x ∈ d :: S ↔ x = z32 ∨ x ∈ o ++ [d]) := Lib.hid (fun x => by
                  rw [List.mem_cons, HS.out, List.mem_append, List.mem_singleton]
                  constructor
                  · rintro (h | h | h) <;> simp [h]
                  · rintro (h | h | h) <;> simp [h])
                have dd : decide (d ∈ S) = false := by simpa using hds
                clear hp HO
                go_upto_region 15 with (first
                  | (go_at_call 50; refine (hpa _).mono ?_; clear hpa; rintro e w4 ⟨rfl, hb4⟩; have hI4 := hI.call hb4; clear hI)
                  | (refine wl_store_at (hI4.new (l := z32.map bv) _ 32 rfl rfl) 0 rfl 32 (.tmp 11) (.tmp 38) rfl w4.heap.size _ _ (d.map bv) rfl rfl rfl (by rw [HPL.out]; rfl) (by rw [HPL.out]; kernel_rfl) (bv_one _) ⟨fun g e => .inr (by injection e with e; subst e; exact Own.ne (hI4.at_ 0 rfl)), setM_apart (by have := SetIs.lt (setM_get (hI4.at_ 1 rfl)); omega), fun g e => (by have := (hI4.at_ 2 rfl : _ ∧ gm ≤ w4.heap.size).2; injection e with e; subst e; exact this), fun g e => (by have := (hI4.at_ 3 rfl : _ ∧ gm ≤ w4.heap.size).2; injection e with e; subst e; exact this), fun g e => (by have := hI4.size_kept 4 rfl; injection e with e; subst e; exact this), trivial⟩ ?_; intro W5 hI5 hs5; simp only [List.set_cons_zero] at hI5)
                  | (refine wl_load_met rfl 32 (.tmp 11) rfl ⟨w4.heap.size, 0, none⟩ rfl (d.map bv) _ (cell_allD (hI5.at_ 0 rfl)) Tryz.underlying32 rfl (by rw [HPL.out]; kernel_rfl) ?_)
                  | (refine wl_look hI5 2 rfl (.tmp 42) (.tmp 43) rfl gm (o.length + 1) S rfl d rfl rfl HD.out ?_; rw [dd])
                  | (refine wl_put hI5 2 rfl (.tmp 47) (.tmp 48) (.const (.bool true)) (.inl rfl) gm (o.length + 1) S rfl d rfl rfl rfl HD.out (by unfold maxLen; omega) ⟨fun e => (by injection e with e; have := SetIs.lt (setM_get (hI4.at_ 1 rfl)); omega), fun g e => .inr (by injection e with e; subst e; exact own_ne_set (hI5.at_ 1 rfl) (setM_get (hI5.at_ 2 rfl))), fun g e => (by injection e with e; subst e; exact Nat.le_refl _), fun g e => (by injection e with e; subst e; exact Nat.le_refl _), fun g e => (by injection e with e; omega), trivial⟩ ?_; intro W6 hI6 hs6; simp only [List.set_cons_zero, List.set_cons_succ] at hI6))
                obtain ⟨g4, hg4⟩ : ∃ g, g = w4.heap.size := ⟨_, rfl⟩
                simp only [← hg4] at hI6 ⊢
                have hk6 : gm ≤ W6.heap.size := (hI6.at_ 3 rfl : _ ∧ gm ≤ W6.heap.size).2
                have hne6 := own_ne_set (hI6.at_ 1 rfl) (setM_get (hI6.at_ 2 rfl))
                have hrd7 : Rd (W6.alloc (.cells (d.map bv).toArray 32)) (W6.heap.size + 1) 32 (some ⟨W6.heap.size, 0, none⟩) 1 (d.map bv) := Rd.lit (size := 32) W6 (d.map bv).toArray 32 1 (by rw [List.size_toArray]; exact HPL.out)
                have hI7 := All.alloc hI6.2 (.cells (d.map bv).toArray 32)
                clear hI4 hI5 hs5 hs6 hg4
                go_wp2_with (first
                  | (refine wl_load_any rfl 32 (.tmp 11) rfl ⟨g4, 0, none⟩ rfl (d.map bv) _ (cell_allD (hI6.at_ 0 rfl)) Tryz.underlying32 rfl (by rw [HPL.out]; kernel_rfl) ?_)
                  | (refine wl_lit1 el_dg rfl (.tmp 50) rfl (d.map bv) rfl HPL.out (by decide) ?_)
                  | (at_builtin; refine wl_app_at el_dg hI7 0 rfl (.tmp 49) (.tmp 51) rfl gm _ _ _ _ rfl rfl (W6.heap.size + 1) _ 1 1 (d.map bv) rfl hrd7 (bv_one _) (by omega) (by simp; omega) (by intro g hg h; exact ⟨setM_apart (fun e => hne6 (by rw [← e]; exact h)), fun g' e => (by injection e with e; subst e; exact hg), fun g' e => (by injection e with e; subst e; exact hg), fun g' e => (by injection e with e; omega), trivial⟩) ?_; intro A7 c7 w7 hI8 hs8))
                simp only [List.set_cons_zero] at hI8
                refine ⟨⟨j + 1, A7, c7, o ++ [d], d :: S, by omega, by go_num, by rw [List.length_append]; rfl, by rw [List.length_append, List.length_singleton]; omega, HO2, HS2, ?_⟩, by simp [intOf]; omega⟩
                rw [List.length_append, List.length_singleton, dvs_snoc]
                exact hI8
          · have d2 : decide ((j : Int) < (row.length : Int)) = false := by simp; omega
            have HO2 : Hid (o = linksW (ls.take (k + 1)).flatten) := Lib.hid (by rw [HFL.out, HO.out, show row.take j = row from List.take_of_length_le (by omega)])
            clear HO
            go_wp2_with fail
            exact ⟨⟨k + 1, A', c', o, S, by omega, by go_num, rfl, by omega, HO2, HS, hI.1, hI.2.1, hI.2.2.2⟩, by simp [intOf]; omega⟩
      · have d1 : decide ((k : Int) < (nl : Int)) = false := by simp; omega
        have HF : Hid (r = o) := Lib.hid (by rw [HLB.out, HO.out, List.take_of_length_le (by rw [HLL.out]; omega)])
        clear HO HS
        go_wp2_with fail
        go_ret
        rw [HF.out]
        exact ⟨A', c', rfl, (hI.at_ 0 rfl : Go.Adm.Own _ _ _ _ _ _ _ _).less hgw, (hI.at_ 3 rfl : _ ∧ _).1⟩
  · have de : (er != 0) = true := by simpa using he
    have HF := Lib.hid (HERR.out he)
    clear he
    go_enter Tryz.func28, Tryz.ntmps28
    go_wp2_with (go_at_call 49; refine hdc.mono ?_; clear hdc; rintro e w1 ⟨Al, nl, cl, rfl, hL, hlc, hcm1, hb1⟩)
    go_ret
    rw [HF.out]
    exact ⟨none, 0, rfl, Go.Adm.Own.nil _ _ _ _, hb1⟩
end Go.Proofs.YtkcmaembpfakdaaGreatDoor

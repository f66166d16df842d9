/- The entries of lines: the reference's Raw. How many lines begin with a word: the reference's Run, and plain laws. -/
import Derived.Test.YtjdinakdkdjocaaGreatDoorRecD
import Derived.Test.YtjdinakdkdjocaaGreatDoorParR
import Derived.Test.YtjdinakdkdjocaaGreatDoorRef2
import Derived.Test.YtjdinakdkdjocaaGreatDoorDecG
import Derived.Test.YtjdinakdkdjocaaGreatDoorLit2
import Derived.Deep.QuietTactic
import Derived.BigQuiet
import Derived.Test.YtjdinakdkdjocaaGreatDoorRdA
set_option linter.unusedSimpArgs false
set_option linter.unusedVariables false
set_option maxRecDepth 100000
namespace Go.Adm
open Go Go.RowKit
theorem Lines.row3 {w : World} {B n k : Nat} {A : Option Addr} {ls : List (List ByteArray)} (h : Lines w B A n ls) (hk : k < ls.length) {t p d : ByteArray} (he : ls[k] = [t, p, d]) :
    ∃ ad rad c2, A = some ad ∧ 3 ≤ c2 ∧ c2 ≤ maxLen ∧ p.size ≤ 140737488355328 ∧ ∀ W, Below B w W → W.cell? (ad.add k) = some (.slice (some rad) 3 c2) ∧ W.cell? (rad.add 0) = some (.string t) ∧ W.cell? (rad.add 1) = some (.string p) ∧ W.cell? (rad.add 2) = some (.string d) := by
  obtain ⟨ad, A2, c2, h1, h2, h3, h4, h5, h6⟩ := h.at_ hk
  rw [he] at h3 h4 h6
  obtain ⟨rad, e0, b0, s0, _⟩ := h6.at_ (k := 0) (by simp)
  obtain ⟨rad1, e1, b1, s1, z1⟩ := h6.at_ (k := 1) (by simp)
  obtain ⟨rad2, e2, b2, s2, _⟩ := h6.at_ (k := 2) (by simp)
  obtain rfl := Option.some.inj (e0.symm.trans e1)
  obtain rfl := Option.some.inj (e0.symm.trans e2)
  subst e0
  refine ⟨ad, rad, c2, h1, h4, h5, z1, fun W hb => ⟨?_, ?_, ?_, ?_⟩⟩
  · exact (hb.cell (by rw [add_block]; omega)).trans h3
  · exact (hb.cell (by rw [add_block]; omega)).trans s0
  · exact (hb.cell (by rw [add_block]; omega)).trans s1
  · exact (hb.cell (by rw [add_block]; omega)).trans s2
theorem lineOf_len {tag : ByteArray} {l : List ByteArray} (h : l.length ≠ 3) : lineOf tag l = none := by
  unfold lineOf
  split
  · simp at h
  · rfl
theorem rawS_bad {tag : ByteArray} {ls : List (List ByteArray)} {k : Nat} (hk : k < ls.length) (h : lineOf tag ls[k] = none) : rawS tag ls = none := by
  unfold rawS
  rw [if_neg]
  intro h'
  rw [List.all_eq_true] at h'
  have := h' _ (List.getElem_mem hk)
  rw [h] at this
  cases this
theorem rawS_good {tag : ByteArray} {ls : List (List ByteArray)} (h : ∀ i (hi : i < ls.length), (lineOf tag ls[i]).isSome = true) : rawS tag ls = some (ls.filterMap (lineOf tag)) := by
  unfold rawS
  rw [if_pos]
  rw [List.all_eq_true]
  intro x hx
  obtain ⟨i, hi, rfl⟩ := List.getElem_of_mem hx
  exact h i hi
/-- what was read of the first k lines -/
def ReadTo (tag : ByteArray) (ls : List (List ByteArray)) (k : Nat) (o : List E) : Prop := o = (ls.take k).filterMap (lineOf tag) ∧ o.length = k ∧ (∀ x ∈ o, E32 x) ∧ ∀ i (hi : i < ls.length), i < k → (lineOf tag ls[i]).isSome = true
theorem ReadTo.zero (tag : ByteArray) (ls : List (List ByteArray)) : ReadTo tag ls 0 [] := ⟨rfl, rfl, by simp, fun i hi h => absurd h (by omega)⟩
theorem ReadTo.succ {tag : ByteArray} {ls : List (List ByteArray)} {k : Nat} {o : List E} (h : ReadTo tag ls k o) (hk : k < ls.length) {e : E} (he : lineOf tag ls[k] = some e) (h32 : E32 e) : ReadTo tag ls (k + 1) (o ++ [e]) := by
  obtain ⟨h1, h2, h3, h4⟩ := h
  refine ⟨?_, by simp [h2], ?_, fun i hi hik => ?_⟩
  · rw [List.take_succ_eq_append_getElem hk, List.filterMap_append, ← h1]
    simp [he]
  · intro x hx
    rcases List.mem_append.1 hx with hx | hx
    · exact h3 x hx
    · rw [List.mem_singleton.1 hx]; exact h32
  · rcases Nat.lt_or_eq_of_le (Nat.le_of_lt_succ hik) with h | h
    · exact h4 i hi h
    · subst h; rw [he]; rfl
theorem ReadTo.done {tag : ByteArray} {ls : List (List ByteArray)} {k : Nat} {o : List E} (h : ReadTo tag ls k o) (hk : ls.length ≤ k) : rawS tag ls = some o := by
  rw [rawS_good (fun i hi => h.2.2.2 i hi (by omega)), h.1, List.take_of_length_le hk]
theorem raw_32 (tag : ByteArray) {w : World} {B n : Nat} {A : Option Addr} {ls : List (List ByteArray)} (h : Lines w B A n ls) : ∀ o, rawS tag ls = some o → (∀ x ∈ o, E32 x) ∧ o.length ≤ ls.length := fun o ho => by
  unfold rawS at ho
  split at ho
  · obtain rfl := Option.some.inj ho
    refine ⟨fun x hx => ?_, List.length_filterMap_le _ _⟩
    obtain ⟨l, hl, he⟩ := List.mem_filterMap.1 hx
    obtain ⟨k, hk, rfl⟩ := List.getElem_of_mem hl
    obtain ⟨ad, A2, c2, _, _, _, _, _, hs⟩ := h.at_ hk
    generalize ls[k] = row at he hs
    unfold lineOf at he
    split at he
    · next t p d =>
      split at he
      · obtain ⟨v, hv, rfl⟩ := Option.map_eq_some_iff.1 he
        exact ⟨AdP.parseD_32 hv, hs.small p (by simp)⟩
      · cases he
    · cases he
  · cases ho
end Go.Adm
namespace Go.Proofs.YtjdinakdkdjocaaGreatDoor
open Go Go.RowKit Go.Adm Go.AdR
/-- what Raw leaves -/
def RawPost (r : Option (List E)) (w : World) (e : Ending) (w' : World) : Prop :=
  ∃ A c, e = .returned (.tuple #[.slice A (r.getD []).length c, .bool r.isSome]) ∧ Go.Adm.Own w' w.heap.size 70 33 A (r.getD []).length c ((r.getD []).map entC).flatten ∧ Below w.heap.size w w'

set_option maxHeartbeats 3200000 in
theorem refRaw_any (tag : ByteArray) (w : World) (B : Nat) (A : Option Addr) (n c : Nat) (ls : List (List ByteArray)) (hl : Lines w B A n ls) (hB : B ≤ w.heap.size) (hn2 : n ≤ 1000) :
    Calls Tryz.prog 29 #[.string tag, .slice A n c] w (RawPost (rawS tag ls) w) := by
  have HN := Lib.hid hl.len
  have HL := Lib.hid hl
  clear hl
  go_enter Tryz.func29, Tryz.ntmps29
  go_wp2
  go_loopw [6, 7] (fun v i wr => ∃ (k : Nat) (A' : Option Addr) (c' : Nat) (o : List E), k ≤ n ∧ i = .int .i64 k ∧ v = .slice A' k c' ∧ w.heap.size ≤ wr.heap.size ∧ Hid (ReadTo tag ls k o) ∧ All wr [.own w.heap.size 70 33 A' k c' (o.map entC).flatten, .kept w w.heap.size]) (fun _ i _ => n - (intOf i).toNat)
  case atStart => exact ⟨0, none, 0, [], by omega, rfl, rfl, Nat.le_refl _, Lib.hid (ReadTo.zero _ _), Go.Adm.Own.nil _ _ _ _, ⟨Below.refl _ _, Nat.le_refl _⟩, trivial⟩
  case round =>
    obtain ⟨k, A', c', o, hk, rfl, rfl, hsr, HO, hI⟩ := hrel
    have hkp := (hI.at_ 1 rfl : _ ∧ _).1
    by_cases hlt : k < n
    · have hkl : k < ls.length := by rw [HN.out]; exact hlt
      have d1 : decide ((k : Int) < (n : Int)) = true := by simp; omega
      have wk0 : (0 : Int) ≤ (k : Int) := by omega
      have wk1 : (k : Int) < (n : Int) := by omega
      have wk2 : ((k : Int)).toNat = k := by omega
      have hkB : Below B w wr := hkp.mono hB
      obtain ⟨row, hrow⟩ : ∃ row, ls[k] = row := ⟨_, rfl⟩
      by_cases hr3 : row.length = 3
      · obtain ⟨t, p, d, rfl⟩ : ∃ t p d, row = [t, p, d] := by
          match row, hr3 with
          | [t, p, d], _ => exact ⟨t, p, d, rfl⟩
        obtain ⟨ad, rad, c2, rfl, h3c, hc2, hps, HCC⟩ := HL.out.row3 hkl hrow
        have HC : Hid (∀ W, Below w.heap.size w W → W.cell? (ad.add k) = some (.slice (some rad) 3 c2) ∧ W.cell? (rad.add 0) = some (.string t) ∧ W.cell? (rad.add 1) = some (.string p) ∧ W.cell? (rad.add 2) = some (.string d)) := Lib.hid (fun W hb => HCC W (hb.mono hB))
        obtain ⟨x0, x1, x2, x3⟩ := HC.out wr hkp
        have x1' : wr.cell? rad = some (.string t) := by rwa [add_zero] at x1
        have x3' : wr.cell? ⟨rad.block, rad.off + 2, none⟩ = some (.string d) := x3
        have HROW := Lib.hid hrow
        clear hrow hr3 HCC hkB
        cases q4 : (t.toList == tag.toList) with
        | false =>
          have hlo : lineOf tag ls[k] = none := by rw [HROW.out]; show (if t.toList == tag.toList then _ else none) = none; rw [q4]; rfl
          have HF : Hid (rawS tag ls = none) := Lib.hid (rawS_bad hkl hlo)
          clear hlo
          go_wp2_with fail
          go_ret2
          exact ⟨none, 0, by rw [HF.out]; rfl, by rw [HF.out]; exact Go.Adm.Own.nil _ _ _ _, hkp⟩
        | true =>
          have hlo : lineOf tag ls[k] = (AdP.parseD d.data.toList).map (fun v => ⟨p, v⟩) := by rw [HROW.out]; show (if t.toList == tag.toList then _ else none) = _; rw [q4]; rfl
          have hpl := AdP.parsed_len d.data.toList
          have HPL : Hid (((AdP.parsed d.data.toList).map bv).length = 32) := Lib.hid (by rw [List.length_map, hpl])
          go_wp2_with fail
          refine (refParse_any d _).mono ?_
          rintro e w3 ⟨rfl, hb3⟩
          have hI3 := hI.call hb3
          have hap := (show Apart (some w3.heap.size) [.own w.heap.size 70 33 A' k c' (o.map entC).flatten, .kept w w.heap.size] from ⟨fun g hg => by injection hg with hg; subst hg; exact .inr (fun e => absurd ((hI3.at_ 0 rfl : Go.Adm.Own w3 w.heap.size 70 33 A' k c' _).lt e).2 (Nat.lt_irrefl _)), fun g hg => by injection hg with hg; subst hg; exact (hI3.at_ 1 rfl : _ ∧ _).2, trivial⟩)
          clear hb3
          cases hp : AdP.parseD d.data.toList with
          | none =>
            rw [hp] at hlo
            clear hpl
            have HF : Hid (rawS tag ls = none) := Lib.hid (rawS_bad hkl hlo)
            clear hlo hp
            generalize AdP.parsed d.data.toList = v at *
            go_wp2_with (refine wl_store_at (hI3.new (l := z32.map bv) _ 68 rfl rfl) 0 rfl 68 (.tmp 8) (.tmp 40) rfl w3.heap.size _ _ (v.map bv) rfl rfl rfl HPL.out (by rw [HPL.out]; kernel_rfl) (bv_one _) hap ?_; intro W2 hW2 hs2)
            go_ret2
            exact ⟨none, 0, by rw [HF.out]; rfl, by rw [HF.out]; exact Go.Adm.Own.nil _ _ _ _, (hW2.at_ 2 rfl : _ ∧ _).1⟩
          | some v =>
            rw [hp] at hlo
            have hpv : AdP.parsed d.data.toList = v := by unfold AdP.parsed; rw [hp]; rfl
            rw [hpv] at hpl HPL ⊢
            have HE32 : Hid (E32 (⟨p, v⟩ : E)) := Lib.hid ⟨hpl, hps⟩
            have HRT : Hid (ReadTo tag ls (k + 1) (o ++ [⟨p, v⟩])) := Lib.hid (HO.out.succ hkl hlo HE32.out)
            clear hlo hp hpv hpl
            go_upto_region 10 with (refine wl_store_at (hI3.new (l := z32.map bv) _ 68 rfl rfl) 0 rfl 68 (.tmp 8) (.tmp 40) rfl w3.heap.size _ _ (v.map bv) rfl rfl rfl HPL.out (by rw [HPL.out]; kernel_rfl) (bv_one _) hap ?_; intro W2 hW2 hs2)
            have hW3 : All W2 [.cells w3.heap.size 68 (v.map bv), .own w.heap.size 70 33 A' k c' (o.map entC).flatten, .kept w w.heap.size] := hW2
            generalize w3.heap.size = gx at *
            clear hW2 hs2 hap hI3 x0 x1 x2 x3 x1' x3'
            refine wp_region_hops 10 [44, 45, 46, 47, 48, 49, 50, 51, 52, 53] [.cells gx 68 (v.map bv), .own w.heap.size 70 33 A' k c' (o.map entC).flatten, .kept w w.heap.size]
              [.eq (.slice A' k c'), .eq (.slice (some ad) n c), .eq (.int .i64 k), .eq (.pointer (some (ad.add k))), .eq (.slice (some rad) 3 c2), .eq (.pointer (some ⟨rad.block, rad.off + 1, none⟩)), .eq (.string p), .eq (.agg (v.map bv).toArray), .eq (.agg (entC (⟨p, v⟩ : E)).toArray), .rd 33 1 (entC (⟨p, v⟩ : E))]
              (by kernel_rfl) (by kernel_rfl) hW3 rfl ?hops ?fin
            case hops =>
              refine ⟨?_, ?_, ?_, ?_, ?_, ?_, ?_, ?_, ?_, ?_, trivial⟩
              · intro a W hW hb hd K hK
                have b6 := hb 6 rfl
                go_simp
                exact hK _ _ (World.grownBy.refl _ _) rfl
              · intro a W hW hb hd K hK
                have b1 := hb 1 rfl
                go_simp
                exact hK _ _ (World.grownBy.refl _ _) rfl
              · intro a W hW hb hd K hK
                have b7 := hb 7 rfl
                go_simp
                exact hK _ _ (World.grownBy.refl _ _) rfl
              · intro a W hW hb hd K hK
                have b45 : a.tmps[45]?.getD undef = _ := hd ⟨1, .data⟩ (by simp) rfl
                have b46 : a.tmps[46]?.getD undef = _ := hd ⟨2, .data⟩ (by simp) rfl
                go_simp
                exact hK _ _ (World.grownBy.refl _ _) rfl
              · intro a W hW hb hd K hK
                have b47 : a.tmps[47]?.getD undef = _ := hd ⟨3, .data⟩ (by simp) rfl
                have q1 : W.cell? (ad.add k) = some (.slice (some rad) 3 c2) := (HC.out W (hW.at_ 2 rfl : _ ∧ _).1).1
                go_simp
                exact hK _ _ (World.grownBy.refl _ _) rfl
              · intro a W hW hb hd K hK
                have b48 : a.tmps[48]?.getD undef = _ := hd ⟨4, .data⟩ (by simp) rfl
                go_simp
                exact hK _ _ (World.grownBy.refl _ _) rfl
              · intro a W hW hb hd K hK
                have b49 : a.tmps[49]?.getD undef = _ := hd ⟨5, .data⟩ (by simp) rfl
                have q1 : W.cell? ⟨rad.block, rad.off + 1, none⟩ = some (.string p) := (HC.out W (hW.at_ 2 rfl : _ ∧ _).1).2.2.1
                go_simp
                exact hK _ _ (World.grownBy.refl _ _) rfl
              · intro a W hW hb hd K hK
                have b8 := hb 8 rfl
                refine wp_load_any 68 (.tmp 8) rfl ⟨gx, 0, none⟩ (show a.eval (.tmp 8) = _ from by simp only [Act.eval, Array.getD_eq_getD_getElem?]; exact b8) (v.map bv) _ (Cells.sub (hW.at_ 0 rfl) 0 (fun j u h => by rwa [Nat.zero_add])) Tryz.underlying68 rfl (by rw [HPL.out]; kernel_rfl) ?_
                exact hK _ _ (World.grownBy.refl _ _) rfl
              · intro a W hW hb hd K hK
                have b50 : a.tmps[50]?.getD undef = _ := hd ⟨6, .data⟩ (by simp) rfl
                have b51 : a.tmps[51]?.getD undef = _ := hd ⟨7, .data⟩ (by simp) rfl
                refine wp_build_at 70 [(0, .tmp 50), (1, .tmp 51)] rfl _ _ #[(0, 1), (1, 32)] (entC (⟨p, v⟩ : E)).toArray zero_ent Tryz.underlying70 (fun w => by kernel_rfl) ?_ ?_
                · simp only [List.map_cons, List.map_nil]
                  rw [(show a.eval (.tmp 50) = _ from by simp only [Act.eval, Array.getD_eq_getD_getElem?]; exact b50), (show a.eval (.tmp 51) = _ from by simp only [Act.eval, Array.getD_eq_getD_getElem?]; exact b51)]
                  exact fill_ent p v HE32.out.1
                exact hK _ _ (World.grownBy.refl _ _) rfl
              · intro a W hW hb hd K hK
                have b52 : a.tmps[52]?.getD undef = _ := hd ⟨8, .data⟩ (by simp) rfl
                refine wp_lit1 el_ent (.tmp 52) rfl (entC (⟨p, v⟩ : E)) (show a.eval (.tmp 52) = _ from by simp only [Act.eval, Array.getD_eq_getD_getElem?]; exact b52) (entC_len HE32.out) (by decide) ?_
                exact hK _ _ (grown_alloc _ _) ⟨_, _, rfl, by have := Rd.lit W (entC (⟨p, v⟩ : E)).toArray 70 1 (size := 33) (by rw [List.size_toArray]; exact entC_len HE32.out); simpa using this⟩
            case fin =>
              intro vs V hV hv
              have e0 : vs 0 = _ := hv 0 (by decide)
              obtain ⟨A9, c9, e9, hRd⟩ := (hv 9 (by decide) : VF.ok (.rd 33 1 (entC (⟨p, v⟩ : E))) (vs 9) V)
              clear hv
              simp only [putAll, List.drop_succ_cons, List.drop_zero, e0, e9, Act.put, List.setIfInBounds_toArray, List.set_cons_succ, List.set_cons_zero]
              clear e0 e9
              have hsV : w.heap.size ≤ V.heap.size := hV.size_kept 2 rfl
              go_wp2_with (at_builtin; refine wl_app_at el_ent hV.2 0 rfl (.tmp 44) (.tmp 53) rfl w.heap.size _ _ _ _ rfl rfl V.heap.size A9 1 c9 (entC (⟨p, v⟩ : E)) rfl hRd (entC_one _) (by omega) hsV (by intro g hg h; simp [Apart, Res.apart] <;> omega) ?_; intro A7 c7 w7 hI7 hs7)
              refine ⟨⟨k + 1, A7, c7, o ++ [⟨p, v⟩], by omega, by go_num, rfl, hI7.size_kept 1 rfl, HRT, ?_⟩, by simp [intOf]; omega⟩
              rw [List.map_append, List.flatten_append]
              simpa using hI7
      · obtain ⟨ad, A2, c2, rfl, hcl, hlc, hc2, _⟩ := HL.out.at_in hkp hB hkl
        rw [hrow] at hcl hlc
        have hlo : lineOf tag ls[k] = none := by rw [hrow]; exact lineOf_len hr3
        have d3 : ((row.length : Int) != 3) = true := by simp; omega
        have HF : Hid (rawS tag ls = none) := Lib.hid (rawS_bad hkl hlo)
        clear hlo hrow hr3 hkB
        go_wp2_with fail
        go_ret2
        exact ⟨none, 0, by rw [HF.out]; rfl, by rw [HF.out]; exact Go.Adm.Own.nil _ _ _ _, hkp⟩
    · have hkn : k = n := by omega
      have d1 : decide ((k : Int) < (n : Int)) = false := by simp; omega
      have hraw := HO.out.done (by have := HN.out; omega)
      have hlen := HO.out.2.1
      have HL3 := Lib.hid hlen
      have HA32 := Lib.hid HO.out.2.2.1
      have HF := Lib.hid hraw
      clear hraw hlen hkn
      go_wp2_with fail
      go_ret2
      exact ⟨A', c', by rw [HF.out]; simp [HL3.out], by rw [HF.out]; show Go.Adm.Own wr w.heap.size 70 33 A' o.length c' (o.map entC).flatten; rw [HL3.out]; exact hI.at_ 0 rfl, hkp⟩

end Go.Proofs.YtjdinakdkdjocaaGreatDoor
set_option linter.unusedSimpArgs false
set_option linter.unusedVariables false
set_option maxRecDepth 100000
namespace Go.AdR
open Go Go.RowKit Go.Adm
def runS (tag : ByteArray) (ls : List (List ByteArray)) : Nat := (ls.takeWhile (isTag tag)).length
theorem run_le (tag : ByteArray) (ls : List (List ByteArray)) : runS tag ls ≤ ls.length := by
  have h := congrArg List.length (List.takeWhile_append_dropWhile (p := isTag tag) (l := ls))
  rw [List.length_append] at h
  unfold runS
  omega
theorem run_take (tag : ByteArray) (ls : List (List ByteArray)) : ls.take (runS tag ls) = ls.takeWhile (isTag tag) := by
  have h := List.takeWhile_append_dropWhile (p := isTag tag) (l := ls)
  calc ls.take (runS tag ls) = (ls.takeWhile (isTag tag) ++ ls.dropWhile (isTag tag)).take (ls.takeWhile (isTag tag)).length := by rw [h]; rfl
    _ = ls.takeWhile (isTag tag) := List.take_left' rfl
theorem run_drop (tag : ByteArray) (ls : List (List ByteArray)) : ls.drop (runS tag ls) = ls.dropWhile (isTag tag) := by
  have h := List.take_append_drop (runS tag ls) ls
  rw [run_take] at h
  have h2 := List.takeWhile_append_dropWhile (p := isTag tag) (l := ls)
  exact List.append_cancel_left (h.trans h2.symm)
theorem run_is {p : List ByteArray → Bool} : ∀ (k : Nat) (m : List (List ByteArray)), k ≤ m.length → (∀ j (hj : j < m.length), j < k → p m[j] = true) → (∀ h : k < m.length, p m[k] = false) → (m.takeWhile p).length = k
  | 0, [], _, _, _ => rfl
  | 0, x :: m, _, _, h => by
    have := h (by simp)
    simp only [List.getElem_cons_zero] at this
    simp [List.takeWhile_cons, this]
  | k + 1, [], h, _, _ => absurd h (by simp)
  | k + 1, x :: m, h, h1, h2 => by
    have h0 := h1 0 (by simp) (by omega)
    simp only [List.getElem_cons_zero] at h0
    rw [List.takeWhile_cons, h0]
    show (m.takeWhile p).length + 1 = k + 1
    rw [run_is k m (by simpa using h) (fun j hj hjk => by have := h1 (j + 1) (by simpa using hj) (by omega); simpa using this) (fun hk => by have := h2 (by simpa using hk); simpa using this)]
end Go.AdR
namespace Go.Proofs.YtjdinakdkdjocaaGreatDoor
open Go Go.RowKit Go.Adm Go.AdR
set_option maxHeartbeats 3200000 in
theorem Run_any (tag : ByteArray) (w : World) (B : Nat) (A : Option Addr) (n c : Nat) (ls : List (List ByteArray)) (hl : Lines w B A n ls) (hne : ∀ l ∈ ls, l ≠ []) (i : Nat) (hi : i ≤ n) (hn : n ≤ 1000000) :
    Calls Tryz.prog 28 #[.slice A n c, .int .i64 (i : Int), .string tag] w fun e w' => e = .returned (.int .i64 ((runS tag (ls.drop i) : Nat) : Int)) ∧ w' = w := by
  have HN := Lib.hid hl.len
  have HL := Lib.hid hl
  have HNE := Lib.hid hne
  clear hl hne
  go_enter Tryz.func28, Tryz.ntmps28
  go_wp2
  go_loop [7] (fun v => ∃ k : Nat, i + k ≤ n ∧ v = .int .i64 k ∧ Hid (∀ j (hj : i + j < ls.length), j < k → isTag tag ls[i + j] = true)) (fun v => n - (intOf v).toNat)
  case atStart => exact ⟨0, by omega, rfl, Lib.hid (fun _ _ h => absurd h (by omega))⟩
  case round =>
    obtain ⟨k, hk, rfl, Hall⟩ := hrel
    have HR : Hid ((∀ h : i + k < ls.length, isTag tag ls[i + k] = false) → runS tag (ls.drop i) = k) := Lib.hid (fun h => by
      have hlen := HN.out
      refine run_is k _ (by rw [List.length_drop]; omega) (fun j hj hjk => ?_) (fun hk' => ?_)
      · rw [List.getElem_drop]; exact Hall.out j (by rw [List.length_drop] at hj; omega) hjk
      · rw [List.getElem_drop]; exact h (by rw [List.length_drop] at hk'; omega))
    by_cases hlt : i + k < n
    · have hkl : i + k < ls.length := by rw [HN.out]; exact hlt
      have d1 : decide (((i : Int) + (k : Int)) < (n : Int)) = true := by simp; omega
      have wk0 : (0 : Int) ≤ ((i : Int) + (k : Int)) := by omega
      have wk1 : ((i : Int) + (k : Int)) < (n : Int) := by omega
      have wk2 : ((i : Int) + (k : Int)).toNat = i + k := by omega
      obtain ⟨ad, A2, c2, rfl, hadB, hc, h2, h3, h4⟩ := HL.out.at_ hkl
      have hr := HNE.out _ (List.getElem_mem hkl)
      have HRK : Hid (isTag tag ls[i + k] = false → runS tag (ls.drop i) = k) := Lib.hid (fun h => HR.out (fun _ => h))
      have HNX : Hid (isTag tag ls[i + k] = true → ∀ j (hj : i + j < ls.length), j < k + 1 → isTag tag ls[i + j] = true) := Lib.hid (fun h j hj h2 => by
        rcases Nat.lt_succ_iff_lt_or_eq.1 h2 with h4 | h4
        · exact Hall.out j hj h4
        · subst h4; exact h)
      generalize ls[i + k] = row at *
      cases row with
      | nil => exact absurd rfl hr
      | cons t l =>
        obtain ⟨ad0, rfl, had0, hs0, hz0⟩ := h4.at_ (k := 0) (by simp)
        rw [add_zero] at hs0
        simp only [List.getElem_cons_zero, List.length_cons] at hs0 hc h2
        have wk5 : (0 : Int) < ((l.length + 1 : Nat) : Int) := by omega
        clear hr h4 h2 h3 HR hz0
        by_cases ht : t = tag
        · subst ht
          have hm := Lib.hid (HNX.out (isTag_self t l))
          clear HNX HRK
          go_wp2_with fail
          exact ⟨⟨k + 1, by omega, by go_num, hm⟩, by simp [intOf]; omega⟩
        · have e2 : (t.toList == tag.toList) = false := by
            rw [beq_eq_false_iff_ne]
            exact fun h => ht (Go.AdR.toList_inj h)
          have hm := Lib.hid (HRK.out (by simp [isTag, ht]))
          clear HNX HRK ht
          go_wp2_with fail
          go_ret
          exact ⟨by rw [hm.out]; rfl, rfl⟩
    · have d1 : decide (((i : Int) + (k : Int)) < (n : Int)) = false := by simp; omega
      have hm := Lib.hid (HR.out (fun h => absurd h (by have := HN.out; omega)))
      clear HR
      go_wp2_with fail
      go_ret
      exact ⟨by rw [hm.out]; rfl, rfl⟩
end Go.Proofs.YtjdinakdkdjocaaGreatDoor
